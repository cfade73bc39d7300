/- The walk over WordGroups. -/
import Derived.Test.YtenobfplmifomaaDoorClsR
import Derived.Test.YtenobfplmifomaaDoorRost
import Derived.Test.YtenobfplmifomaaDoorSaneW
namespace Go.Proofs.YtenobfplmifomaaDoor
open Go.RowKit

theorem TabG.nxb {b : Nat} {w w' : World} (h : TabG w) (hb : ¬ 0 = b) (k : Exb b w w') : TabG w' := h.chg k ⟨h.lt, hb⟩
theorem classesN_small (l : List Nd) (h : Int) (hl : l.length ≤ 1000) : (classesN l h).length ≤ 1000000 ∧ ∀ c ∈ classesN l h, c.length ≤ 1000000 := by
  by_cases h16 : 16 < h
  · rw [classesN_big h16]; simp
  · rw [classesN_fold h16]
    have h1 := foldC_length h l
    refine ⟨by omega, fun c hc => ?_⟩
    have := (foldC_fine (h := h) l (P := fun _ => True) (fun _ _ => trivial) c hc).2.1
    omega
def GrRel (b : Nat) (w : World) (i : Value) (wr : World) : Prop := ∃ k : Nat, k ≤ 4 ∧ i = .int .i64 k ∧ Exb b w wr ∧ TK wr b

set_option maxRecDepth 100000 in
set_option maxHeartbeats 4000000 in
theorem wordgroups_walk (a1 : Option Addr) (n1 c1 : Nat) (l1 : List Int) (a2 : Option Addr) (n2 c2 : Nat) (l2 : List Nd) (lev : Int) (v : Nat) (w : World) (h1 : Sl 1 encI w a1 n1 l1) (hc1 : n1 ≤ c1) (hm1 : c1 ≤ maxLen)
    (h2 : Sl 3 encN w a2 n2 l2) (hw : ∀ x ∈ l2, x.word < 4294967296) (hv : v < 4294967296) (hT : TabG w) (hL : LetG w) :
    Calls Tryd.prog 6 #[.slice a1 n1 c1, .slice a2 n2 c2, .int .i64 lev, .int .u32 v] w fun e w' => e = .returned (.bool true) ∧ Ex w w' := by
  have W2 := Lib.hid hw
  clear hw
  go_enter Tryd.func6, Tryd.ntmps6
  go_wp2_with fail
  refine (new_t _ _ _ l1 _ h1 hc1 hm1).mono ?_
  rintro e w1 ⟨rfl, T, kk, z1⟩
  obtain ⟨b, hb⟩ : ∃ b, b = w.heap.size := ⟨_, rfl⟩
  rw [← hb] at T ⊢
  have hgt : ¬ 0 = b := by have := hT.lt; omega
  have hgl : ¬ 1 = b := by have := hL.lt; omega
  have S1 : Slb 3 encN b w1 a2 n2 l2 := (Rd.chg h2 kk (fun _ hk => hk)).mono (fun x (hx : x < w.heap.size) => ⟨Nat.lt_of_lt_of_le hx kk.size, by omega⟩)
  have T1 := Lib.hid (hT.nx kk)
  have L1 := Lib.hid (hL.nx kk)
  have QL : Hid (Exl b w w1) := Lib.hid ⟨kk, by omega⟩
  clear h1 h2 hT hL kk hb z1
  go_wp2_with fail
  go_loopw [10] (fun i wr => GrRel b w1 i wr) (fun i _ => 4 - (intOf i).toNat)
  case atStart => exact ⟨0, by omega, rfl, Exb.refl _ _, T⟩
  case round =>
    clear T
    obtain ⟨k, hk, rfl, kw, T⟩ := hrel
    obtain ⟨wo, rfl⟩ : ∃ wo : World, wo = wr := ⟨_, rfl⟩
    by_cases hlt : k < 4
    · have hbo := T.lt
      go_wp2_with fail
      refine (roster_t 8 _ T (L1.out.nxb hgl kw) hgl (by omega) (by omega)).mono ?_
      rintro e x1 ⟨v1, LX, rfl, R⟩
      have T := R.tape
      have E := R.k
      obtain ⟨aX, cX, rfl, SX, _, _, _⟩ := R.own.slf (fun _ => rfl)
      have SX := SX.slb hbo
      have RL := R.len
      have RW := Lib.hid R.word
      clear R
      go_wp2_with fail
      refine (next_t 19 _ T (by omega) (by omega)).mono ?_
      clear T
      rintro e x2 ⟨r, rfl, r0, r1, T, kk⟩
      replace E := E.nxb kk
      replace SX := SX.nxb kk
      clear kk
      go_wp2_with fail
      refine (word_t _ T).mono ?_
      clear T
      rintro e x3 ⟨vX, rfl, hvX, T, kk⟩
      replace E := E.nxb kk
      replace SX := SX.nxb kk
      replace kw := kw.nxb E
      clear kk E hbo
      obtain ⟨wa, rfl⟩ : ∃ wa : World, wa = x3 := ⟨_, rfl⟩
      have TG := T1.out.nxb hgt kw
      have hvX' : vX < 4294967296 := Nat.lt_trans hvX (by omega)
      have hn8 := SX.len
      by_cases h3 : k = 3
      · by_cases hn : n2 ≤ 100
        · have SX := S1.nxb kw
          have hn1 : n2 ≤ 1000 := by omega
          have d1 : ((k : Int) == 3) = true := by simp; omega
          have d2 : (n2 : Int) ≤ 100 := by omega
          clear RW RL hvX hvX' hn8 S1 h3 r0 r1
          go_wp2_with fail
          refine (group_p _ _ _ l2 lev v _ (SX.sl) (fun _ hk => hk) hn1 W2.out hv TG).mono ?_
          rintro e x1 ⟨p1, m1, q1, rfl, R1, kk⟩
          have G1 : Slf 3 encN wa x1 p1 m1 _ := R1
          replace kk : Ex wa x1 := kk
          have E : Exb b wa x1 := kk.b b
          replace T := T.nx kk
          have S2 := SX.nxb E
          clear R1 kk
          go_wp2_with fail
          refine (group_r _ _ _ l2 lev v _ (S2.sl) (fun _ hk => hk) hn1 W2.out hv).mono ?_
          rintro e x2 ⟨p2, m2, q2, rfl, R2, kk⟩
          have G2 : Slf 3 encN x1 x2 p2 m2 _ := R2
          have G1 := G1.nx kk
          have hml := groupN_length l2 lev v
          have e1 := G1.len
          have e2 := G2.len
          obtain rfl : m1 = m2 := by omega
          have hm : m1 ≤ 1000000 := by have := S2.len; omega
          replace kk : Ex x1 x2 := kk
          replace E := E.nxb (kk.b b)
          replace T := T.nx kk
          clear R2 kk S2 e1 e2 hml
          go_wp2_with fail
          (with_reducible refine (samenodes_x _ _ _ _ _ _ _ G1.sl G2.sl hm).mono ?_)
          rintro e x3 ⟨rfl, kk⟩
          replace E := E.nxb (kk.b b)
          replace T := T.nx kk
          have S3 := SX.nxb E
          have TG3 := TG.nxb hgt E
          clear kk G1 G2 hm
          go_wp2_with fail
          (with_reducible refine (classes_p _ _ _ _ _ _ S3.sl hn1 W2.out TG3).mono ?_)
          rintro e x4 ⟨p4, q4, rfl, C4, kk⟩
          replace E := E.nxb (kk.b b)
          replace T := T.nx kk
          have S4 := SX.nxb E
          clear kk S3 TG3
          go_wp2_with fail
          (with_reducible refine (classes_r _ _ _ _ _ _ S4.sl hn1 W2.out).mono ?_)
          rintro e x5 ⟨p5, q5, rfl, C5, kk⟩
          replace E := E.nxb (kk.b b)
          replace T := T.nx kk
          replace C4 := C4.nx kk
          clear kk S4
          have CB := classesN_small l2 lev (by rw [SX.len]; exact hn1)
          have CB1 := CB.1
          have CB2 := Lib.hid CB.2
          generalize classesN l2 lev = CC at C4 C5 CB1 CB2
          clear CB
          go_wp2_with fail
          (with_reducible refine (lists_x _ _ _ _ _ _ _ C4 C5 CB1 CB2.out).mono ?_)
          rintro e x6 ⟨rfl, kk⟩
          replace E := E.nxb (kk.b b)
          replace T := T.nx kk
          replace kw := kw.nxb E
          clear kk C4 C5 CB1 CB2 E SX TG
          go_wp2_with fail
          exact ⟨⟨k + 1, by omega, by go_num, kw, T⟩, by simp [intOf]; omega⟩
        · have hn1 : LX.length ≤ 1000 := by omega
          have d1 : ((k : Int) == 3) = true := by simp; omega
          have d2 : ¬ (n2 : Int) ≤ 100 := by omega
          clear S1 h3
          go_wp2_with fail
          refine (group_p _ _ _ LX (r - 1) vX _ (SX.sl) (fun _ hk => hk) hn1 (fun x hx => Nat.lt_trans (RW.out x hx) (by omega)) hvX' TG).mono ?_
          rintro e x1 ⟨p1, m1, q1, rfl, R1, kk⟩
          have G1 : Slf 3 encN wa x1 p1 m1 _ := R1
          replace kk : Ex wa x1 := kk
          have E : Exb b wa x1 := kk.b b
          replace T := T.nx kk
          have S2 := SX.nxb E
          clear R1 kk
          go_wp2_with fail
          refine (group_r _ _ _ LX (r - 1) vX _ (S2.sl) (fun _ hk => hk) hn1 (fun x hx => Nat.lt_trans (RW.out x hx) (by omega)) hvX').mono ?_
          rintro e x2 ⟨p2, m2, q2, rfl, R2, kk⟩
          have G2 : Slf 3 encN x1 x2 p2 m2 _ := R2
          have G1 := G1.nx kk
          have hml := groupN_length LX (r - 1) vX
          have e1 := G1.len
          have e2 := G2.len
          obtain rfl : m1 = m2 := by omega
          have hm : m1 ≤ 1000000 := by have := S2.len; omega
          replace kk : Ex x1 x2 := kk
          replace E := E.nxb (kk.b b)
          replace T := T.nx kk
          clear R2 kk S2 e1 e2 hml
          go_wp2_with fail
          (with_reducible refine (samenodes_x _ _ _ _ _ _ _ G1.sl G2.sl hm).mono ?_)
          rintro e x3 ⟨rfl, kk⟩
          replace E := E.nxb (kk.b b)
          replace T := T.nx kk
          have S3 := SX.nxb E
          have TG3 := TG.nxb hgt E
          clear kk G1 G2 hm
          go_wp2_with fail
          (with_reducible refine (classes_p _ _ _ _ _ _ S3.sl hn1 (fun x hx => Nat.lt_trans (RW.out x hx) (by omega)) TG3).mono ?_)
          rintro e x4 ⟨p4, q4, rfl, C4, kk⟩
          replace E := E.nxb (kk.b b)
          replace T := T.nx kk
          have S4 := SX.nxb E
          clear kk S3 TG3
          go_wp2_with fail
          (with_reducible refine (classes_r _ _ _ _ _ _ S4.sl hn1 (fun x hx => Nat.lt_trans (RW.out x hx) (by omega))).mono ?_)
          rintro e x5 ⟨p5, q5, rfl, C5, kk⟩
          replace E := E.nxb (kk.b b)
          replace T := T.nx kk
          replace C4 := C4.nx kk
          clear kk S4
          have CB := classesN_small LX (r - 1) (by rw [SX.len]; exact hn1)
          have CB1 := CB.1
          have CB2 := Lib.hid CB.2
          generalize classesN LX (r - 1) = CC at C4 C5 CB1 CB2
          clear CB
          go_wp2_with fail
          (with_reducible refine (lists_x _ _ _ _ _ _ _ C4 C5 CB1 CB2.out).mono ?_)
          rintro e x6 ⟨rfl, kk⟩
          replace E := E.nxb (kk.b b)
          replace T := T.nx kk
          replace kw := kw.nxb E
          clear kk C4 C5 CB1 CB2 E SX TG
          go_wp2_with fail
          exact ⟨⟨k + 1, by omega, by go_num, kw, T⟩, by simp [intOf]; omega⟩
      · have hn1 : LX.length ≤ 1000 := by omega
        have d1 : ((k : Int) == 3) = false := by simp; omega
        clear S1 h3
        go_wp2_with fail
        refine (group_p _ _ _ LX (r - 1) vX _ (SX.sl) (fun _ hk => hk) hn1 (fun x hx => Nat.lt_trans (RW.out x hx) (by omega)) hvX' TG).mono ?_
        rintro e x1 ⟨p1, m1, q1, rfl, R1, kk⟩
        have G1 : Slf 3 encN wa x1 p1 m1 _ := R1
        replace kk : Ex wa x1 := kk
        have E : Exb b wa x1 := kk.b b
        replace T := T.nx kk
        have S2 := SX.nxb E
        clear R1 kk
        go_wp2_with fail
        refine (group_r _ _ _ LX (r - 1) vX _ (S2.sl) (fun _ hk => hk) hn1 (fun x hx => Nat.lt_trans (RW.out x hx) (by omega)) hvX').mono ?_
        rintro e x2 ⟨p2, m2, q2, rfl, R2, kk⟩
        have G2 : Slf 3 encN x1 x2 p2 m2 _ := R2
        have G1 := G1.nx kk
        have hml := groupN_length LX (r - 1) vX
        have e1 := G1.len
        have e2 := G2.len
        obtain rfl : m1 = m2 := by omega
        have hm : m1 ≤ 1000000 := by have := S2.len; omega
        replace kk : Ex x1 x2 := kk
        replace E := E.nxb (kk.b b)
        replace T := T.nx kk
        clear R2 kk S2 e1 e2 hml
        go_wp2_with fail
        (with_reducible refine (samenodes_x _ _ _ _ _ _ _ G1.sl G2.sl hm).mono ?_)
        rintro e x3 ⟨rfl, kk⟩
        replace E := E.nxb (kk.b b)
        replace T := T.nx kk
        have S3 := SX.nxb E
        have TG3 := TG.nxb hgt E
        clear kk G1 G2 hm
        go_wp2_with fail
        (with_reducible refine (classes_p _ _ _ _ _ _ S3.sl hn1 (fun x hx => Nat.lt_trans (RW.out x hx) (by omega)) TG3).mono ?_)
        rintro e x4 ⟨p4, q4, rfl, C4, kk⟩
        replace E := E.nxb (kk.b b)
        replace T := T.nx kk
        have S4 := SX.nxb E
        clear kk S3 TG3
        go_wp2_with fail
        (with_reducible refine (classes_r _ _ _ _ _ _ S4.sl hn1 (fun x hx => Nat.lt_trans (RW.out x hx) (by omega))).mono ?_)
        rintro e x5 ⟨p5, q5, rfl, C5, kk⟩
        replace E := E.nxb (kk.b b)
        replace T := T.nx kk
        replace C4 := C4.nx kk
        clear kk S4
        have CB := classesN_small LX (r - 1) (by rw [SX.len]; exact hn1)
        have CB1 := CB.1
        have CB2 := Lib.hid CB.2
        generalize classesN LX (r - 1) = CC at C4 C5 CB1 CB2
        clear CB
        go_wp2_with fail
        (with_reducible refine (lists_x _ _ _ _ _ _ _ C4 C5 CB1 CB2.out).mono ?_)
        rintro e x6 ⟨rfl, kk⟩
        replace E := E.nxb (kk.b b)
        replace T := T.nx kk
        replace kw := kw.nxb E
        clear kk C4 C5 CB1 CB2 E SX TG
        go_wp2_with fail
        exact ⟨⟨k + 1, by omega, by go_num, kw, T⟩, by simp [intOf]; omega⟩
    · clear S1
      go_wp2_with fail
      (with_reducible refine (sanew_x _ (T1.out.nxb hgt kw)).mono ?_)
      rintro e w9 ⟨rfl, kk⟩
      go_wp2_with fail
      go_ret
      exact ⟨rfl, (QL.out.nxb kw).1.nx kk⟩
end Go.Proofs.YtenobfplmifomaaDoor
