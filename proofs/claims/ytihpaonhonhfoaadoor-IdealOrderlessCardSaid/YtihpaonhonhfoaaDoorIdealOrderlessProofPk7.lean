/- Texts for the statement IdealOrderlessProof, part 7 of 7: Lnk, IdlO, Laid4, LaidL, Laid2, Open, IdealOrderlessProof. -/
import Derived.Test.YtihpaonhonhfoaaDoorTie
import Derived.Test.YtihpaonhonhfoaaDoorCards
import Derived.Lib.LaidTab
import Derived.Lib.LaidU8
import Derived.LaidMore
import Derived.Stop.Joined
import Derived.SevenTiedAt
import Derived.ChangeArms
import Derived.LaidSub
import Derived.Test.YtihpaonhonhfoaaDoorRows
import Derived.ProofKit
import Derived.OpenShut
import Derived.ShutString
import Derived.ChangeOld
import Derived.Lib.SmallJoins
import Derived.Deep.Slices
import Derived.Deep.Fields
import Derived.ChangeSame
import Derived.Test.YtihpaonhonhfoaaDoorIdealOrderlessProofPk1
import Derived.Test.YtihpaonhonhfoaaDoorIdealOrderlessProofPk3
import Derived.Test.YtihpaonhonhfoaaDoorIdealOrderlessProofPk4
import Derived.Test.YtihpaonhonhfoaaDoorIdealOrderlessProofPk5
import Derived.Test.YtihpaonhonhfoaaDoorIdealOrderlessProofPk6

/- Links of the tape. -/
namespace Go.Proofs.YtihpaonhonhfoaaDoor
open Go.RowKit

def LkOk (B1 B2 : Nat) (L : List Lkd) : Prop := L.length ≤ B1 ∧ ∀ c ∈ L, I64 c.1 ∧ c.2.length ≤ B2 ∧ ∀ y ∈ c.2, I64 y.1 ∧ I64 y.2
theorem i64_zero : I64 0 := ⟨by omega, by omega⟩
theorem neigh_ok {l : List Nd} (h : ∀ x ∈ l, I64 x.id) (id lev : Int) : I64 (neighN l id lev).1.1 ∧ I64 (neighN l id lev).1.2 := by
  have hg : ∀ x ∈ (throughN l id lev).1, I64 x.id := by
    intro x hx
    unfold throughN at hx
    split at hx
    · unfold thrG groupN at hx
      exact h x ((sortN_mem l x).1 (List.mem_filter.1 hx).1)
    · simp at hx
  have hd : ∀ (o : Option Nd), (∀ x, o = some x → I64 x.id) → I64 (o.getD Nd.zero).id := by
    intro o ho
    cases o with
    | none => exact i64_zero
    | some x => exact ho x rfl
  unfold neighN
  split
  · refine ⟨?_, ?_⟩
    · show I64 (leftN _ _)
      unfold leftN
      split
      · exact i64_zero
      · exact hd _ (fun x hx => hg x (List.mem_of_getElem? hx))
    · exact hd _ (fun x hx => hg x (List.mem_of_getElem? hx))
  · exact ⟨i64_zero, i64_zero⟩
theorem build_ok {l : List Nd} (h : ∀ x ∈ l, I64 x.id) (lev : Int) : LkOk l.length 17 (buildN l lev).1 := by
  unfold buildN
  split
  · exact ⟨by simp, by simp⟩
  · split
    · exact ⟨by simp, by simp⟩
    · rename_i hl
      have hlv : 0 ≤ lev ∧ lev ≤ 16 := by
        have : lvlN lev = true := by simpa using hl
        unfold lvlN at this
        simpa using this
      refine ⟨by simp [sortN_length], fun c hc => ?_⟩
      obtain ⟨x, hx, rfl⟩ := List.mem_map.1 hc
      have hs : ∀ x ∈ sortN l, I64 x.id := fun x hx => h x ((sortN_mem l x).1 hx)
      refine ⟨hs x hx, by rw [rowN_len]; omega, fun y hy => ?_⟩
      unfold rowN at hy
      obtain ⟨j, _, rfl⟩ := List.mem_map.1 hy
      exact neigh_ok hs _ _
def LsRel (n ch b : Nat) (w : World) (o i : Value) (wr : World) : Prop :=
  ∃ (k : Nat) (qs : List (Int × Hdr)) (L : List Lkd), k ≤ ch ∧ i = .int .i64 k ∧ OwnLk w.heap.size wr o qs L ∧ LkOk (n + (ch - k)) (17 + (ch - k)) L ∧ TK wr b ∧ Exb b w wr
theorem lk_mono {B1 B2 B1' B2' : Nat} {L : List Lkd} (h : LkOk B1 B2 L) (h1 : B1 ≤ B1') (h2 : B2 ≤ B2') : LkOk B1' B2' L :=
  ⟨by have := h.1; omega, fun c hc => ⟨(h.2 c hc).1, by have := (h.2 c hc).2.1; omega, (h.2 c hc).2.2⟩⟩
theorem lk_erase {B1 B2 : Nat} {L : List Lkd} (h : LkOk B1 B2 L) (j : Nat) : LkOk B1 B2 (L.take j ++ L.drop (j + 1)) := by
  refine ⟨by have := h.1; simp; omega, fun c hc => h.2 c ?_⟩
  rcases List.mem_append.1 hc with h1 | h1
  · exact List.mem_of_mem_take h1
  · exact List.mem_of_mem_drop h1
theorem lk_push {B1 B2 : Nat} {L : List Lkd} (h : LkOk B1 B2 L) {c : Lkd} (hc : I64 c.1 ∧ c.2.length ≤ B2 ∧ ∀ y ∈ c.2, I64 y.1 ∧ I64 y.2) : LkOk (B1 + 1) B2 (L ++ [c]) := by
  refine ⟨by have := h.1; simp; omega, fun d hd => ?_⟩
  rcases List.mem_append.1 hd with h1 | h1
  · exact h.2 d h1
  · rw [List.mem_singleton.1 h1]; exact hc
theorem lk_set {B1 B2 : Nat} {L : List Lkd} (h : LkOk B1 B2 L) (j : Nat) {c : Lkd} (hc : I64 c.1 ∧ c.2.length ≤ B2 ∧ ∀ y ∈ c.2, I64 y.1 ∧ I64 y.2) : LkOk B1 B2 (L.set j c) := by
  refine ⟨by have := h.1; simp; omega, fun d hd => ?_⟩
  rcases List.mem_or_eq_of_mem_set hd with h1 | rfl
  · exact h.2 d h1
  · exact hc

theorem own_cut_blk (a : Option Addr) (n m c : Nat) : (Hdr.val (a, m, c)).ownBlock = (Hdr.val (a, n, c)).ownBlock := by cases a <;> rfl
theorem own_cut {e : TypeId} {base : Nat} {w : World} {a : Option Addr} {n m c : Nat} {l : List (Int × Int)} (h : OwnL 2 encS e base w (Hdr.val (a, n, c)) l) (hm : m ≤ l.length) : OwnL 2 encS e base w (Hdr.val (a, m, c)) (l.take m) := by
  have hml : (l.take m).length = m := by rw [List.length_take]; omega
  rcases h.2 with ⟨h1, h2⟩ | ⟨g, cap, cur, e1, e2, e3, e4, e5, e6, e7⟩
  · have h1' : a = none ∧ n = 0 ∧ c = 0 := by simpa [Hdr.val] using h1
    obtain ⟨rfl, rfl, rfl⟩ := h1'
    have hl0 : l = [] := List.eq_nil_of_length_eq_zero h2
    subst hl0
    obtain rfl : m = 0 := by simp at hm; omega
    exact h
  · have h1' : a = some ⟨g, 0, none⟩ ∧ n = l.length ∧ c = cap := by simpa [Hdr.val] using e1
    obtain ⟨rfl, rfl, rfl⟩ := h1'
    refine ⟨by rw [flatN_len (sz := 2) (fun _ => rfl)], .inr ⟨g, c, cur, by simp [Hdr.val, hml], e2, e3, by omega, e5, e6, ?_⟩⟩
    rw [hml, flatN_take (sz := 2) (fun _ => rfl), ← e7, List.take_take, Nat.min_eq_left (Nat.mul_le_mul_right _ hm)]
def LinksPost (n ch b : Nat) (w : World) (e : Ending) (w' : World) : Prop := ∃ (v : Value) (qs : List (Int × Hdr)) (L : List Lkd), e = .returned v ∧ OwnLk w.heap.size w' v qs L ∧ LkOk (n + ch) (17 + ch) L ∧ TK w' b ∧ Exb b w w'
set_option maxRecDepth 100000 in
set_option maxHeartbeats 8000000 in
theorem links_t {b : Nat} (a : Option Addr) (n cp : Nat) (l : List Nd) (lev : Int) (ch : Nat) (w : World) (h : TK w b) (hs : Slb 3 encN b w a n l) (hn : n ≤ 100) (hch : ch ≤ 10) (hw : ∀ x ∈ l, x.word < 4294967296) (hi : ∀ x ∈ l, I64 x.id) :
    Calls Tryd.prog 31 #[.pointer (some ⟨b, 0, none⟩), .slice a n cp, .int .i64 lev, .int .i64 ch] w (LinksPost n ch b w) := by
  have HI := Lib.hid hi
  have HS := Lib.hid hs
  have hbw := h.lt
  have BO := build_ok hi lev
  rw [hs.len] at BO
  clear hi
  go_enter Tryd.func31, Tryd.ntmps31
  go_wp2_with fail
  (with_reducible refine (build_r _ _ _ _ _ _ hs.sl (by omega) hw).mono ?_)
  rintro e w1 ⟨v1, q1, rfl, OQ, k1⟩
  have T := h.nx k1
  have kk := k1.b b
  generalize (buildN l lev).1 = L0 at OQ BO
  generalize (buildN l lev).2 = er
  clear h hs hw k1
  go_wp2_with fail
  refine (next_t ((ch : Int) + 1) _ T (by omega) (by omega)).mono ?_
  clear T
  rintro e w2 ⟨k, rfl, k0, k1, T, k2⟩
  obtain ⟨k, rfl⟩ := Int.eq_ofNat_of_zero_le k0
  replace OQ := OQ.nxb hbw k2
  replace kk := kk.nxb k2
  have BO := Lib.hid (lk_mono BO (show n ≤ n + (ch - k) by omega) (show 17 ≤ 17 + (ch - k) by omega))
  have hkc : k ≤ ch := by omega
  clear k2 k0 k1
  go_wp2_with fail
  go_loopw [9, 11] (fun o i wr => LsRel n ch b w o i wr) (fun _ i _ => (intOf i).toNat)
  case atStart => exact ⟨k, q1, L0, hkc, rfl, OQ, BO.out, T, kk⟩
  case round =>
    clear OQ BO T kk hkc
    obtain ⟨q, qs, L, hq, rfl, OQ, LO, T, kk⟩ := hrel
    have LO := Lib.hid LO
    obtain ⟨wo, rfl⟩ : ∃ wo : World, wo = wr := ⟨_, rfl⟩
    obtain ⟨a3, cap3, rfl, NL3, hc3, hm3, some3, _⟩ := OwnN.nl (encA := encI) (encB := encS) (s1 := 2) (s2 := 2) (fun _ => rfl) (fun _ => rfl) OQ
    have hL1 := LO.out.1
    by_cases hq0 : 0 < q
    · by_cases hL0 : L.length = 0
      · have d0 : ¬ (0 : Int) < (L.length : Int) := by omega
        have HL0 := Lib.hid hL0
        have OQ := Lib.hid OQ
        clear hL0 NL3 some3
        go_wp2_with fail
        go_ret
        exact ⟨_, qs, L, rfl, OQ.out, lk_mono LO.out (by omega) (by omega), T, kk⟩
      · obtain ⟨g, rfl, hg⟩ := some3 (fun h0 => hL0 (by rw [h0]; rfl))
        have hLp : (0 : Int) < (L.length : Int) := by omega
        have hgb : ¬ g = b := by omega
        clear some3 NL3 hL0
        go_wp2_with fail
        refine (next_t (L.length : Int) _ T (by omega) (by omega)).mono ?_
        clear T
        rintro e w3 ⟨j, rfl, j0, j1, T, k2⟩
        obtain ⟨j, rfl⟩ := Int.eq_ofNat_of_zero_le j0
        have hjl : j < L.length := by omega
        have hjl' : (j : Int) < (L.length : Int) := by omega
        replace OQ := OQ.nxb hbw k2
        replace kk := kk.nxb k2
        clear k2 j0 j1
        go_wp2_with fail
        refine (next_t 7 _ T (by omega) (by omega)).mono ?_
        clear T
        rintro e w4 ⟨r, rfl, r0, r1, T, k2⟩
        replace OQ := OQ.nxb hbw k2
        replace kk := kk.nxb k2
        clear k2
        obtain ⟨c, hc⟩ : ∃ c, L[j]? = some c := ⟨L[j], by simp⟩
        obtain ⟨⟨ha, hn3, hcp⟩, hqj, own⟩ := OwnN.get (p := 1) OQ hc
        have cok := Lib.hid (LO.out.2 c (List.mem_of_getElem? hc))
        have hqm : ((q : Int) - 1) = ((q - 1 : Nat) : Int) := by omega
        have hqsl : qs.length = L.length := OQ.2.1
        by_cases r00 : r = 0
        · subst r00
          clear cok own hqj
          go_wp2_with fail
          have OQ := OQ.nx (Ex.refl w4).drew
          have T : TK w4.drew b := T
          have kk := kk.drew
          have z0 := kk.size
          have hjc : (j : Int) ≤ (cap3 : Int) := by omega
          have hj1 : (j : Int) + 1 ≤ (L.length : Int) := by omega
          have jw : IntKind.i64.wrap ((j : Int) + 1) = (j : Int) + 1 := IntWalk.i64_in _ (by omega)
          have jt : ((j : Int) + 1).toNat = j + 1 := by omega
          have j0' : (0 : Int) ≤ (j : Int) + 1 := by omega
          have jle : j ≤ qs.length := by omega
          have hjj : (j : Int) ≤ (j : Int) + 1 := by omega
          by_cases hcap : cap3 = j + 1
          · have HRD : Sl 2 (encP encI) w4.drew (some ⟨g, 0, none⟩) (L.length - (j + 1)) (qs.drop (j + 1)) := by
              rw [show L.length - (j + 1) = 0 by omega, List.drop_of_length_le (by omega)]
              exact Sl.nil _ _ _ _
            refine wp_region_held_drew (S := fun _ => True) (by kernel_rfl) (trivial) (fun hHeld => ?_)
            refine wpAnyH_take (i := 0) (oi := ⟨some 73, .move (.tmp 9), 31, "tape.go:199", #[], none⟩) (v := ?_) rfl (by kernel_rfl) (by kernel_rfl) (by kernel_rfl) (fun _ _ _ h => h) (Or.inl ⟨by rfl, ?hyr1x0q1⟩) (by assumption) ?restr1x0q1
            case hyr1x0q1 => intro wq hSw; (go_simp); (try with_reducible rfl)
            try simp only [Act.put, List.setIfInBounds_toArray, List.set_cons_zero, List.set_cons_succ]
            refine wpAnyH_take (i := 1) (oi := ⟨some 74, .move (.tmp 12), 3, "tape.go:199", #[], none⟩) (v := ?_) rfl (by kernel_rfl) (by kernel_rfl) (by kernel_rfl) (fun _ _ _ h => h) (Or.inl ⟨by rfl, ?hyr1x1q4⟩) (by assumption) ?restr1x1q4
            case hyr1x1q4 => intro wq hSw; (go_simp); (try with_reducible rfl)
            try simp only [Act.put, List.setIfInBounds_toArray, List.set_cons_zero, List.set_cons_succ]
            refine wpAnyH_take (i := 2) (oi := ⟨some 75, .move (.tmp 12), 3, "tape.go:199", #[], none⟩) (v := ?_) rfl (by kernel_rfl) (by kernel_rfl) (by kernel_rfl) (fun _ _ _ h => h) (Or.inl ⟨by rfl, ?hyr1x2q7⟩) (by assumption) ?restr1x2q7
            case hyr1x2q7 => intro wq hSw; (go_simp); (try with_reducible rfl)
            try simp only [Act.put, List.setIfInBounds_toArray, List.set_cons_zero, List.set_cons_succ]
            refine wpAnyH_take (i := 3) (oi := ⟨some 76, .slice 31 (.tmp 73) none (some (.tmp 74)) (some (.tmp 75)), 31, "tape.go:199", #[⟨0, .data⟩, ⟨1, .data⟩, ⟨2, .data⟩], none⟩) (v := ?_) rfl (by kernel_rfl) (by kernel_rfl) (by kernel_rfl) (fun _ _ _ h => h) (Or.inl ⟨by rfl, ?hyr1x3q10⟩) (by assumption) ?restr1x3q10
            case hyr1x3q10 => intro wq hSw; (go_simp); (try with_reducible rfl)
            try simp only [Act.put, List.setIfInBounds_toArray, List.set_cons_zero, List.set_cons_succ]
            refine wpAnyH_take (i := 4) (oi := ⟨some 77, .move (.tmp 9), 31, "tape.go:199", #[], none⟩) (v := ?_) rfl (by kernel_rfl) (by kernel_rfl) (by kernel_rfl) (fun _ _ _ h => h) (Or.inl ⟨by rfl, ?hyr1x4q13⟩) (by assumption) ?restr1x4q13
            case hyr1x4q13 => intro wq hSw; (go_simp); (try with_reducible rfl)
            try simp only [Act.put, List.setIfInBounds_toArray, List.set_cons_zero, List.set_cons_succ]
            refine wpAnyH_take (i := 5) (oi := ⟨some 78, .move (.tmp 12), 3, "tape.go:199", #[], none⟩) (v := ?_) rfl (by kernel_rfl) (by kernel_rfl) (by kernel_rfl) (fun _ _ _ h => h) (Or.inl ⟨by rfl, ?hyr1x5q16⟩) (by assumption) ?restr1x5q16
            case hyr1x5q16 => intro wq hSw; (go_simp); (try with_reducible rfl)
            try simp only [Act.put, List.setIfInBounds_toArray, List.set_cons_zero, List.set_cons_succ]
            refine wpAnyH_take (i := 6) (oi := ⟨some 79, .binOp .add 3 (.tmp 78) (.const (.int .i64 1)) 3, 3, "tape.go:199", #[⟨5, .data⟩], none⟩) (v := ?_) rfl (by kernel_rfl) (by kernel_rfl) (by kernel_rfl) (fun _ _ _ h => h) (Or.inl ⟨by rfl, ?hyr1x6q19⟩) (by assumption) ?restr1x6q19
            case hyr1x6q19 => intro wq hSw; (go_simp); (try with_reducible rfl)
            try simp only [Act.put, List.setIfInBounds_toArray, List.set_cons_zero, List.set_cons_succ]
            refine wpAnyH_take (i := 7) (oi := ⟨some 80, .slice 31 (.tmp 77) (some (.tmp 79)) none none, 31, "tape.go:199", #[⟨4, .data⟩, ⟨6, .data⟩], none⟩) (v := ?_) rfl (by kernel_rfl) (by kernel_rfl) (by kernel_rfl) (fun _ _ _ h => h) (Or.inl ⟨by rfl, ?hyr1x7q22⟩) (by assumption) ?restr1x7q22
            case hyr1x7q22 => intro wq hSw; (go_simp); (try with_reducible rfl)
            try simp only [Act.put, List.setIfInBounds_toArray, List.set_cons_zero, List.set_cons_succ]
            refine wpAnyH_ready (rs := [8]) (by kernel_rfl) (by simp) ?_
            refine AllReadyH.cons (o := ⟨some 81, .call { callee := .builtin .append, args := #[.tmp 76, .tmp 80], argTypes := #[31, 31] }, 31, "tape.go:199", #[⟨3, .data⟩, ⟨7, .data⟩], none⟩) rfl (fun K hK => ?_) AllReadyH.nil
            rw [if_pos (by rfl)]
            refine wp_append_W (enc := encP encI) _ (.tmp 76) (.tmp 80) 31 rfl w.heap.size 55 (.agg #[.int .i64 0, .slice none 0 0]) 2 32 Tryd.underlying31 Tryd.infoLd rfl (by omega) (by omega) _ (qs.take j) (OwnW.cut (sz := 2) (enc := encP encI) (fun _ => rfl) OQ.1 (by omega)) rfl ⟨g, 0, none⟩ (L.length - (j + 1)) _ (qs.drop (j + 1)) HRD (fun _ => rfl) (by simp [encP, encI, Hdr.val, Value.oneCell']) rfl (by simp; omega) (by omega) z0 ?_
            intro v9 w9 own9 ch0 ch1 _
            refine hK.out _ _ (trivial) (fun hHeld => ?_)
            clear hK K
            try simp only [Act.put, List.setIfInBounds_toArray, List.set_cons_zero, List.set_cons_succ]
            refine wpAnyH_take (i := 9) (oi := ⟨some 9, .assign (.tmp 81), 31, "tape.go:199", #[⟨8, .data⟩, ⟨8, .chain⟩, ⟨0, .phase⟩, ⟨1, .phase⟩, ⟨2, .phase⟩, ⟨3, .phase⟩, ⟨4, .phase⟩, ⟨5, .phase⟩, ⟨6, .phase⟩, ⟨7, .phase⟩, ⟨8, .phase⟩], none⟩) (v := ?_) rfl (by kernel_rfl) (by kernel_rfl) (by kernel_rfl) (fun _ _ _ h => h) (Or.inl ⟨by rfl, ?hyr1x9q33⟩) (by assumption) ?restr1x9q33
            case hyr1x9q33 => intro wq hSw; (go_simp); (try with_reducible rfl)
            try simp only [Act.put, List.setIfInBounds_toArray, List.set_cons_zero, List.set_cons_succ]
            refine wpAnyH_done (by kernel_rfl) ?_ _
            replace OQ := OQ.erase (by decide) hjl own9 ch0
            replace T := TP.chg T ch1 (fun x hx => by omega)
            replace kk : Exb b w w9 := Chg.trans kk (ch1.mono (fun x hx => hx.1))
            clear HRD own9 ch0 ch1
            go_wp2_with fail
            exact ⟨⟨q - 1, _, _, by omega, by first | rfl | rw [hqm], OQ, lk_mono (lk_erase LO.out j) (by omega) (by omega), T, kk⟩, by simp [intOf]; omega⟩
          · have HRD : Sl 2 (encP encI) w4.drew (some ⟨g, (j + 1) * 2, none⟩) (L.length - (j + 1)) (qs.drop (j + 1)) := by
              obtain ⟨a', c', e', r', _⟩ := OQ.1.rd (fun _ => rfl)
              have e2 : some (⟨g, 0, none⟩ : Addr) = a' ∧ L.length = qs.length ∧ cap3 = c' := by simpa using e'
              obtain ⟨rfl, hLq, rfl⟩ := e2
              have r2 : Sl 2 (encP encI) w4.drew (some ⟨g, 0, none⟩) qs.length qs := Rd.mono r' (fun _ hk => hk.2)
              have := Sl.drop r2 (m := j + 1) (by omega)
              rw [Nat.zero_add, ← hLq] at this
              exact this
            refine wp_region_held_drew (S := fun _ => True) (by kernel_rfl) (trivial) (fun hHeld => ?_)
            refine wpAnyH_take (i := 0) (oi := ⟨some 73, .move (.tmp 9), 31, "tape.go:199", #[], none⟩) (v := ?_) rfl (by kernel_rfl) (by kernel_rfl) (by kernel_rfl) (fun _ _ _ h => h) (Or.inl ⟨by rfl, ?hyr2x0q1⟩) (by assumption) ?restr2x0q1
            case hyr2x0q1 => intro wq hSw; (go_simp); (try with_reducible rfl)
            try simp only [Act.put, List.setIfInBounds_toArray, List.set_cons_zero, List.set_cons_succ]
            refine wpAnyH_take (i := 1) (oi := ⟨some 74, .move (.tmp 12), 3, "tape.go:199", #[], none⟩) (v := ?_) rfl (by kernel_rfl) (by kernel_rfl) (by kernel_rfl) (fun _ _ _ h => h) (Or.inl ⟨by rfl, ?hyr2x1q4⟩) (by assumption) ?restr2x1q4
            case hyr2x1q4 => intro wq hSw; (go_simp); (try with_reducible rfl)
            try simp only [Act.put, List.setIfInBounds_toArray, List.set_cons_zero, List.set_cons_succ]
            refine wpAnyH_take (i := 2) (oi := ⟨some 75, .move (.tmp 12), 3, "tape.go:199", #[], none⟩) (v := ?_) rfl (by kernel_rfl) (by kernel_rfl) (by kernel_rfl) (fun _ _ _ h => h) (Or.inl ⟨by rfl, ?hyr2x2q7⟩) (by assumption) ?restr2x2q7
            case hyr2x2q7 => intro wq hSw; (go_simp); (try with_reducible rfl)
            try simp only [Act.put, List.setIfInBounds_toArray, List.set_cons_zero, List.set_cons_succ]
            refine wpAnyH_take (i := 3) (oi := ⟨some 76, .slice 31 (.tmp 73) none (some (.tmp 74)) (some (.tmp 75)), 31, "tape.go:199", #[⟨0, .data⟩, ⟨1, .data⟩, ⟨2, .data⟩], none⟩) (v := ?_) rfl (by kernel_rfl) (by kernel_rfl) (by kernel_rfl) (fun _ _ _ h => h) (Or.inl ⟨by rfl, ?hyr2x3q10⟩) (by assumption) ?restr2x3q10
            case hyr2x3q10 => intro wq hSw; (go_simp); (try with_reducible rfl)
            try simp only [Act.put, List.setIfInBounds_toArray, List.set_cons_zero, List.set_cons_succ]
            refine wpAnyH_take (i := 4) (oi := ⟨some 77, .move (.tmp 9), 31, "tape.go:199", #[], none⟩) (v := ?_) rfl (by kernel_rfl) (by kernel_rfl) (by kernel_rfl) (fun _ _ _ h => h) (Or.inl ⟨by rfl, ?hyr2x4q13⟩) (by assumption) ?restr2x4q13
            case hyr2x4q13 => intro wq hSw; (go_simp); (try with_reducible rfl)
            try simp only [Act.put, List.setIfInBounds_toArray, List.set_cons_zero, List.set_cons_succ]
            refine wpAnyH_take (i := 5) (oi := ⟨some 78, .move (.tmp 12), 3, "tape.go:199", #[], none⟩) (v := ?_) rfl (by kernel_rfl) (by kernel_rfl) (by kernel_rfl) (fun _ _ _ h => h) (Or.inl ⟨by rfl, ?hyr2x5q16⟩) (by assumption) ?restr2x5q16
            case hyr2x5q16 => intro wq hSw; (go_simp); (try with_reducible rfl)
            try simp only [Act.put, List.setIfInBounds_toArray, List.set_cons_zero, List.set_cons_succ]
            refine wpAnyH_take (i := 6) (oi := ⟨some 79, .binOp .add 3 (.tmp 78) (.const (.int .i64 1)) 3, 3, "tape.go:199", #[⟨5, .data⟩], none⟩) (v := ?_) rfl (by kernel_rfl) (by kernel_rfl) (by kernel_rfl) (fun _ _ _ h => h) (Or.inl ⟨by rfl, ?hyr2x6q19⟩) (by assumption) ?restr2x6q19
            case hyr2x6q19 => intro wq hSw; (go_simp); (try with_reducible rfl)
            try simp only [Act.put, List.setIfInBounds_toArray, List.set_cons_zero, List.set_cons_succ]
            refine wpAnyH_take (i := 7) (oi := ⟨some 80, .slice 31 (.tmp 77) (some (.tmp 79)) none none, 31, "tape.go:199", #[⟨4, .data⟩, ⟨6, .data⟩], none⟩) (v := ?_) rfl (by kernel_rfl) (by kernel_rfl) (by kernel_rfl) (fun _ _ _ h => h) (Or.inl ⟨by rfl, ?hyr2x7q22⟩) (by assumption) ?restr2x7q22
            case hyr2x7q22 => intro wq hSw; (go_simp); (try with_reducible rfl)
            try simp only [Act.put, List.setIfInBounds_toArray, List.set_cons_zero, List.set_cons_succ]
            refine wpAnyH_ready (rs := [8]) (by kernel_rfl) (by simp) ?_
            refine AllReadyH.cons (o := ⟨some 81, .call { callee := .builtin .append, args := #[.tmp 76, .tmp 80], argTypes := #[31, 31] }, 31, "tape.go:199", #[⟨3, .data⟩, ⟨7, .data⟩], none⟩) rfl (fun K hK => ?_) AllReadyH.nil
            rw [if_pos (by rfl)]
            refine wp_append_W (enc := encP encI) _ (.tmp 76) (.tmp 80) 31 rfl w.heap.size 55 (.agg #[.int .i64 0, .slice none 0 0]) 2 32 Tryd.underlying31 Tryd.infoLd rfl (by omega) (by omega) _ (qs.take j) (OwnW.cut (sz := 2) (enc := encP encI) (fun _ => rfl) OQ.1 (by omega)) rfl ⟨g, (j + 1) * 2, none⟩ (L.length - (j + 1)) _ (qs.drop (j + 1)) HRD (fun _ => rfl) (by simp [encP, encI, Hdr.val, Value.oneCell']) rfl (by simp; omega) (by omega) z0 ?_
            intro v9 w9 own9 ch0 ch1 _
            refine hK.out _ _ (trivial) (fun hHeld => ?_)
            clear hK K
            try simp only [Act.put, List.setIfInBounds_toArray, List.set_cons_zero, List.set_cons_succ]
            refine wpAnyH_take (i := 9) (oi := ⟨some 9, .assign (.tmp 81), 31, "tape.go:199", #[⟨8, .data⟩, ⟨8, .chain⟩, ⟨0, .phase⟩, ⟨1, .phase⟩, ⟨2, .phase⟩, ⟨3, .phase⟩, ⟨4, .phase⟩, ⟨5, .phase⟩, ⟨6, .phase⟩, ⟨7, .phase⟩, ⟨8, .phase⟩], none⟩) (v := ?_) rfl (by kernel_rfl) (by kernel_rfl) (by kernel_rfl) (fun _ _ _ h => h) (Or.inl ⟨by rfl, ?hyr2x9q33⟩) (by assumption) ?restr2x9q33
            case hyr2x9q33 => intro wq hSw; (go_simp); (try with_reducible rfl)
            try simp only [Act.put, List.setIfInBounds_toArray, List.set_cons_zero, List.set_cons_succ]
            refine wpAnyH_done (by kernel_rfl) ?_ _
            replace OQ := OQ.erase (by decide) hjl own9 ch0
            replace T := TP.chg T ch1 (fun x hx => by omega)
            replace kk : Exb b w w9 := Chg.trans kk (ch1.mono (fun x hx => hx.1))
            clear HRD own9 ch0 ch1
            go_wp2_with fail
            exact ⟨⟨q - 1, _, _, by omega, by first | rfl | rw [hqm], OQ, lk_mono (lk_erase LO.out j) (by omega) (by omega), T, kk⟩, by simp [intOf]; omega⟩
        by_cases r01 : r = 1
        · subst r01
          clear r00 cok own hqj
          go_wp2_with fail
          refine (id_t _ _ _ _ _ T (HS.out.nxb kk) (by omega) HI.out).mono ?_
          clear T
          rintro e w5 ⟨i1, rfl, I1, T, k2⟩
          replace OQ := OQ.nxb hbw k2
          replace kk := kk.nxb k2
          clear k2
          go_wp2_with fail
          refine (id_t _ _ _ _ _ T (HS.out.nxb kk) (by omega) HI.out).mono ?_
          clear T
          rintro e w6 ⟨i2, rfl, I2, T, k2⟩
          replace OQ := OQ.nxb hbw k2
          replace kk := kk.nxb k2
          clear k2
          go_wp2_with fail
          refine (id_t _ _ _ _ _ T (HS.out.nxb kk) (by omega) HI.out).mono ?_
          clear T
          rintro e w7 ⟨i3, rfl, I3, T, k2⟩
          replace OQ := OQ.nxb hbw k2
          replace kk := kk.nxb k2
          clear k2
          have zz := kk.size
          have kA := Ex.new w7 (.cells #[.int .i64 i2, .int .i64 i3] 36)
          have ownI : OwnL 2 encS 36 w.heap.size (w7.alloc (.cells #[.int .i64 i2, .int .i64 i3] 36)) (.slice (some ⟨w7.heap.size, 0, none⟩) 1 1) [(i2, i3)] := OwnL.lit [(i2, i3)] (fun _ => rfl) zz (by unfold maxLen; simp) rfl
          have kB := Ex.new (w7.alloc (.cells #[.int .i64 i2, .int .i64 i3] 36)) (.cells #[.int .i64 i1, .slice (some ⟨w7.heap.size, 0, none⟩) 1 1] 55)
          have SX : Sl 2 (encP encI) ((w7.alloc (.cells #[.int .i64 i2, .int .i64 i3] 36)).alloc (.cells #[.int .i64 i1, .slice (some ⟨w7.heap.size, 0, none⟩) 1 1] 55)) (some ⟨(w7.alloc (.cells #[.int .i64 i2, .int .i64 i3] 36)).heap.size, 0, none⟩) 1 [((i1, (some ⟨w7.heap.size, 0, none⟩, 1, 1)) : Int × Hdr)] := Sl.lit _ rfl rfl (fun _ => rfl) rfl
          have FR : ∀ (j : Nat) (r : Int × Hdr) (x : Nat), qs[j]? = some r → r.2.val.ownBlock = some x → ¬ (Value.slice (some ⟨w7.heap.size, 0, none⟩) 1 1).ownBlock = some x := by
            intro j r x hr hx hv
            have h1 := OQ.lt hr hx
            simp [Value.ownBlock] at hv
            omega
          have OQ2 := (OQ.nx kA).nx kB
          have ownI2 := ownI.nx kB
          have T2 := (T.nx kA).nx kB
          have kk2 := (kk.nxb (kA.b b)).nxb (kB.b b)
          have zz2 := kk2.size
          have HSX : (w7.alloc (.cells #[.int .i64 i2, .int .i64 i3] 36)).heap.size = w7.heap.size + 1 := by simp
          rw [HSX] at SX
          clear ownI OQ T kk kA kB HSX
          go_wp2_with (at_builtin; (refine wpList_append_W (enc := encP encI) _ rfl _ _ 31 rfl w.heap.size 55 (.agg #[.int .i64 0, .slice none 0 0]) 2 32 Tryd.underlying31 Tryd.infoLd rfl (by omega) (by omega) _ qs OQ2.1 rfl _ 1 1 [_] SX (fun _ => rfl) (by simp [encP, encI, Hdr.val, Value.oneCell']) rfl (by omega) (by omega) zz2 ?_); intro v9 w9 own9 ch0 ch1 _)
          have OQ := OQ2.push (by decide) own9 ch0 ownI2 FR
          have T := TP.chg T2 ch1 (fun x hx => by omega)
          have kk : Exb b w w9 := Chg.trans kk2 (ch1.mono (fun x hx => hx.1))
          exact ⟨⟨q - 1, _, _, by omega, by first | rfl | rw [hqm], OQ, lk_mono (lk_push LO.out ⟨I1, by show 1 ≤ _; omega, fun y hy => by rw [List.mem_singleton.1 hy]; exact ⟨I2, I3⟩⟩) (by omega) (by omega), T, kk⟩, by simp [intOf]; omega⟩
        by_cases r02 : r = 2
        · subst r02
          clear r00 r01
          obtain ⟨a6, c6, e6, r6, hc6, _, some6⟩ := own.rd (fun _ => rfl)
          obtain ⟨rfl, hn3e, rfl⟩ : ha = a6 ∧ hn3 = c.2.length ∧ hcp = c6 := by simpa [Hdr.val] using e6
          have HN3 := Lib.hid hn3e
          have hcl : hn3 ≤ 17 + (ch - q) := by rw [hn3e]; exact cok.out.2.1
          rw [← hn3e] at hc6
          have jw3 : IntKind.i64.wrap ((hn3 : Int) + 1) = (hn3 : Int) + 1 := IntWalk.i64_in _ (by omega)
          clear hn3e
          clear e6 r6 some6
          have OQ := OQ.nx (Ex.refl w4).drew
          have own := own.nx (Ex.refl w4).drew
          have T : TK w4.drew b := T
          have kk := kk.drew
          have CE : ∀ cur : World, OwnLk w.heap.size cur (.slice (some ⟨g, 0, none⟩) L.length cap3) qs L → cur.cell? ⟨g, j * 2 + 1, none⟩ = some (.slice ha hn3 hcp) := fun cur h => by
            have := (OwnW.set1 (sz := 2) (enc := encP encI) (c := 1) (fun _ => rfl) h.1 hqj (by omega)).1
            exact this
          go_wp2_with fail
          refine wp_region_held_drew (S := fun _ => True) (by kernel_rfl) (trivial) (fun hHeld => ?_)
          refine wpAnyH_take (i := 0) (oi := ⟨some 101, .move (.tmp 9), 31, "tape.go:203", #[], none⟩) (v := ?_) rfl (by kernel_rfl) (by kernel_rfl) (by kernel_rfl) (fun _ _ _ h => h) (Or.inl ⟨by rfl, ?hyr3x0q1⟩) (by assumption) ?restr3x0q1
          case hyr3x0q1 => intro wq hSw; (go_simp); (try with_reducible rfl)
          try simp only [Act.put, List.setIfInBounds_toArray, List.set_cons_zero, List.set_cons_succ]
          refine wpAnyH_take (i := 1) (oi := ⟨some 102, .move (.tmp 12), 3, "tape.go:203", #[], none⟩) (v := ?_) rfl (by kernel_rfl) (by kernel_rfl) (by kernel_rfl) (fun _ _ _ h => h) (Or.inl ⟨by rfl, ?hyr3x1q4⟩) (by assumption) ?restr3x1q4
          case hyr3x1q4 => intro wq hSw; (go_simp); (try with_reducible rfl)
          try simp only [Act.put, List.setIfInBounds_toArray, List.set_cons_zero, List.set_cons_succ]
          refine wpAnyH_take (i := 2) (oi := ⟨some 103, .move (.tmp 9), 31, "tape.go:203", #[], none⟩) (v := ?_) rfl (by kernel_rfl) (by kernel_rfl) (by kernel_rfl) (fun _ _ _ h => h) (Or.inl ⟨by rfl, ?hyr3x2q7⟩) (by assumption) ?restr3x2q7
          case hyr3x2q7 => intro wq hSw; (go_simp); (try with_reducible rfl)
          try simp only [Act.put, List.setIfInBounds_toArray, List.set_cons_zero, List.set_cons_succ]
          refine wpAnyH_take (i := 3) (oi := ⟨some 104, .move (.tmp 12), 3, "tape.go:203", #[], none⟩) (v := ?_) rfl (by kernel_rfl) (by kernel_rfl) (by kernel_rfl) (fun _ _ _ h => h) (Or.inl ⟨by rfl, ?hyr3x3q10⟩) (by assumption) ?restr3x3q10
          case hyr3x3q10 => intro wq hSw; (go_simp); (try with_reducible rfl)
          try simp only [Act.put, List.setIfInBounds_toArray, List.set_cons_zero, List.set_cons_succ]
          refine wpAnyH_take (i := 4) (oi := ⟨some 105, .indexAddr 31 (.tmp 103) (.tmp 104), 0, "tape.go:203", #[⟨2, .data⟩, ⟨3, .data⟩], none⟩) (v := ?_) rfl (by kernel_rfl) (by kernel_rfl) (by kernel_rfl) (fun _ _ _ h => h) (Or.inl ⟨by rfl, ?hyr3x4q13⟩) (by assumption) ?restr3x4q13
          case hyr3x4q13 => intro wq hSw; (go_simp); (try with_reducible rfl)
          try simp only [Act.put, List.setIfInBounds_toArray, List.set_cons_zero, List.set_cons_succ]
          refine wpAnyH_take (i := 5) (oi := ⟨some 106, .fieldAddr 55 (.tmp 105) 1, 0, "tape.go:203", #[⟨4, .data⟩], none⟩) (v := ?_) rfl (by kernel_rfl) (by kernel_rfl) (by kernel_rfl) (fun _ _ _ h => h) (Or.inl ⟨by rfl, ?hyr3x5q16⟩) (by assumption) ?restr3x5q16
          case hyr3x5q16 => intro wq hSw; (go_simp); (try with_reducible rfl)
          try simp only [Act.put, List.setIfInBounds_toArray, List.set_cons_zero, List.set_cons_succ]
          refine wpAnyH_take (i := 7) (oi := ⟨some 108, .move (.tmp 0), 24, "tape.go:203", #[], none⟩) (v := ?_) rfl (by kernel_rfl) (by kernel_rfl) (by kernel_rfl) (fun _ _ _ h => h) (Or.inl ⟨by rfl, ?hyr3x7q19⟩) (by assumption) ?restr3x7q19
          case hyr3x7q19 => intro wq hSw; (go_simp); (try with_reducible rfl)
          try simp only [Act.put, List.setIfInBounds_toArray, List.set_cons_zero, List.set_cons_succ]
          refine wpAnyH_take (i := 8) (oi := ⟨some 109, .move (.tmp 9), 31, "tape.go:203", #[], none⟩) (v := ?_) rfl (by kernel_rfl) (by kernel_rfl) (by kernel_rfl) (fun _ _ _ h => h) (Or.inl ⟨by rfl, ?hyr3x8q22⟩) (by assumption) ?restr3x8q22
          case hyr3x8q22 => intro wq hSw; (go_simp); (try with_reducible rfl)
          try simp only [Act.put, List.setIfInBounds_toArray, List.set_cons_zero, List.set_cons_succ]
          refine wpAnyH_take (i := 9) (oi := ⟨some 110, .move (.tmp 12), 3, "tape.go:203", #[], none⟩) (v := ?_) rfl (by kernel_rfl) (by kernel_rfl) (by kernel_rfl) (fun _ _ _ h => h) (Or.inl ⟨by rfl, ?hyr3x9q25⟩) (by assumption) ?restr3x9q25
          case hyr3x9q25 => intro wq hSw; (go_simp); (try with_reducible rfl)
          try simp only [Act.put, List.setIfInBounds_toArray, List.set_cons_zero, List.set_cons_succ]
          refine wpAnyH_take (i := 10) (oi := ⟨some 111, .indexAddr 31 (.tmp 109) (.tmp 110), 0, "tape.go:203", #[⟨8, .data⟩, ⟨9, .data⟩], none⟩) (v := ?_) rfl (by kernel_rfl) (by kernel_rfl) (by kernel_rfl) (fun _ _ _ h => h) (Or.inl ⟨by rfl, ?hyr3x10q28⟩) (by assumption) ?restr3x10q28
          case hyr3x10q28 => intro wq hSw; (go_simp); (try with_reducible rfl)
          try simp only [Act.put, List.setIfInBounds_toArray, List.set_cons_zero, List.set_cons_succ]
          refine wpAnyH_take (i := 11) (oi := ⟨some 112, .fieldAddr 55 (.tmp 111) 1, 0, "tape.go:203", #[⟨10, .data⟩], none⟩) (v := ?_) rfl (by kernel_rfl) (by kernel_rfl) (by kernel_rfl) (fun _ _ _ h => h) (Or.inl ⟨by rfl, ?hyr3x11q31⟩) (by assumption) ?restr3x11q31
          case hyr3x11q31 => intro wq hSw; (go_simp); (try with_reducible rfl)
          try simp only [Act.put, List.setIfInBounds_toArray, List.set_cons_zero, List.set_cons_succ]
          refine wpAnyH_ready (rs := [6, 12]) (by kernel_rfl) (by simp) ?_
          refine AllReadyH.cons (o := ⟨some 107, .load 53 (.tmp 106), 53, "tape.go:203", #[⟨5, .data⟩], none⟩) rfl (fun K hK => ?_) ?_
          · have cq := CE _ OQ
            go_simp
            clear cq
            refine hK.out _ _ (trivial) (fun hHeld => ?_)
            clear hK K
            try simp only [Act.put, List.setIfInBounds_toArray, List.set_cons_zero, List.set_cons_succ]
            refine wpAnyH_ready (rs := [12]) (by kernel_rfl) (by simp) ?_
            refine AllReadyH.cons (o := ⟨some 113, .load 53 (.tmp 112), 53, "tape.go:203", #[⟨11, .data⟩], none⟩) rfl (fun K hK => ?_) AllReadyH.nil
            have cq := CE _ OQ
            go_simp
            clear cq
            refine hK.out _ _ (trivial) (fun hHeld => ?_)
            clear hK K
            try simp only [Act.put, List.setIfInBounds_toArray, List.set_cons_zero, List.set_cons_succ]
            refine wpAnyH_take (i := 13) (oi := ⟨some 114, .call { callee := .builtin .len, args := #[.tmp 113], argTypes := #[53] }, 3, "tape.go:203", #[⟨12, .data⟩], none⟩) (v := ?_) rfl (by kernel_rfl) (by kernel_rfl) (by kernel_rfl) (fun _ _ _ h => h) (Or.inl ⟨by rfl, ?hyr3x13q50⟩) (by assumption) ?restr3x13q50
            case hyr3x13q50 => intro wq hSw; (go_simp); (try with_reducible rfl)
            try simp only [Act.put, List.setIfInBounds_toArray, List.set_cons_zero, List.set_cons_succ]
            refine wpAnyH_take (i := 14) (oi := ⟨some 115, .binOp .add 3 (.tmp 114) (.const (.int .i64 1)) 3, 3, "tape.go:203", #[⟨13, .data⟩], none⟩) (v := ?_) rfl (by kernel_rfl) (by kernel_rfl) (by kernel_rfl) (fun _ _ _ h => h) (Or.inl ⟨by rfl, ?hyr3x14q53⟩) (by assumption) ?restr3x14q53
            case hyr3x14q53 => intro wq hSw; (go_simp); (try with_reducible rfl)
            try simp only [Act.put, List.setIfInBounds_toArray, List.set_cons_zero, List.set_cons_succ]
            refine wpAnyH_ready (rs := [15]) (by kernel_rfl) (by simp) ?_
            refine AllReadyH.cons (o := ⟨some 116, .call { callee := .value (.func 13), args := #[.tmp 108, .tmp 115], argTypes := #[24, 3] }, 3, "tape.go:203", #[⟨7, .data⟩, ⟨14, .data⟩], none⟩) rfl (fun K hK => ?_) AllReadyH.nil
            go_simp
            ((with_reducible refine (next_t ((hn3 : Int) + 1) _ T (by omega) (by omega)).mono ?_))
            clear T
            rintro e w5 ⟨m, rfl, m0, m1, T, k2⟩
            obtain ⟨m, rfl⟩ := Int.eq_ofNat_of_zero_le m0
            replace OQ := OQ.nxb hbw k2
            replace own := own.nxb hbw k2
            replace kk := kk.nxb k2
            clear k2
            have hmc : (m : Int) ≤ (hcp : Int) := by omega
            have hml : m ≤ c.2.length := by rw [← HN3.out]; omega
            refine hK.out _ _ (trivial) (fun hHeld => ?_)
            clear hK K
            try simp only [Act.put, List.setIfInBounds_toArray, List.set_cons_zero, List.set_cons_succ]
            refine wpAnyH_take (i := 16) (oi := ⟨some 117, .slice 53 (.tmp 107) none (some (.tmp 116)) none, 53, "tape.go:203", #[⟨6, .data⟩, ⟨15, .data⟩], none⟩) (v := ?_) rfl (by kernel_rfl) (by kernel_rfl) (by kernel_rfl) (fun _ _ _ h => h) (Or.inl ⟨by rfl, ?hyr3x16q72⟩) (by assumption) ?restr3x16q72
            case hyr3x16q72 => intro wq hSw; (go_simp); (try with_reducible rfl)
            try simp only [Act.put, List.setIfInBounds_toArray, List.set_cons_zero, List.set_cons_succ]
            refine wpAnyH_take (i := 17) (oi := ⟨some 118, .indexAddr 31 (.tmp 101) (.tmp 102), 0, "tape.go:203", #[⟨0, .data⟩, ⟨1, .data⟩, ⟨0, .phase⟩, ⟨1, .phase⟩, ⟨2, .phase⟩, ⟨3, .phase⟩, ⟨4, .phase⟩, ⟨5, .phase⟩, ⟨6, .phase⟩, ⟨7, .phase⟩, ⟨8, .phase⟩, ⟨9, .phase⟩, ⟨10, .phase⟩, ⟨11, .phase⟩, ⟨12, .phase⟩, ⟨13, .phase⟩, ⟨14, .phase⟩, ⟨15, .phase⟩, ⟨16, .phase⟩], none⟩) (v := ?_) rfl (by kernel_rfl) (by kernel_rfl) (by kernel_rfl) (fun _ _ _ h => h) (Or.inl ⟨by rfl, ?hyr3x17q75⟩) (by assumption) ?restr3x17q75
            case hyr3x17q75 => intro wq hSw; (go_simp); (try with_reducible rfl)
            try simp only [Act.put, List.setIfInBounds_toArray, List.set_cons_zero, List.set_cons_succ]
            refine wpAnyH_take (i := 18) (oi := ⟨some 119, .fieldAddr 55 (.tmp 118) 1, 0, "tape.go:203", #[⟨17, .data⟩, ⟨0, .phase⟩, ⟨1, .phase⟩, ⟨2, .phase⟩, ⟨3, .phase⟩, ⟨4, .phase⟩, ⟨5, .phase⟩, ⟨6, .phase⟩, ⟨7, .phase⟩, ⟨8, .phase⟩, ⟨9, .phase⟩, ⟨10, .phase⟩, ⟨11, .phase⟩, ⟨12, .phase⟩, ⟨13, .phase⟩, ⟨14, .phase⟩, ⟨15, .phase⟩, ⟨16, .phase⟩], none⟩) (v := ?_) rfl (by kernel_rfl) (by kernel_rfl) (by kernel_rfl) (fun _ _ _ h => h) (Or.inl ⟨by rfl, ?hyr3x18q78⟩) (by assumption) ?restr3x18q78
            case hyr3x18q78 => intro wq hSw; (go_simp); (try with_reducible rfl)
            try simp only [Act.put, List.setIfInBounds_toArray, List.set_cons_zero, List.set_cons_succ]
            refine wpAnyH_ready (rs := [19]) (by kernel_rfl) (by simp) ?_
            refine AllReadyH.cons (o := ⟨none, .store 53 (.tmp 119) (.tmp 117), 0, "tape.go:203", #[⟨18, .data⟩, ⟨16, .data⟩, ⟨15, .chain⟩, ⟨0, .phase⟩, ⟨1, .phase⟩, ⟨2, .phase⟩, ⟨3, .phase⟩, ⟨4, .phase⟩, ⟨5, .phase⟩, ⟨6, .phase⟩, ⟨7, .phase⟩, ⟨8, .phase⟩, ⟨9, .phase⟩, ⟨10, .phase⟩, ⟨11, .phase⟩, ⟨12, .phase⟩, ⟨13, .phase⟩, ⟨14, .phase⟩, ⟨15, .phase⟩, ⟨16, .phase⟩], none⟩) rfl (fun K hK => ?_) AllReadyH.nil
            obtain ⟨pc, pf, OQ2⟩ := OwnN.put (p := 1) (fun _ => rfl) (by decide) OQ hqj (hd' := (ha, m, hcp)) (c' := c.2.take m) (own_cut own hml) (Chg.refl _ _) (.inl (own_cut_blk ha hn3 m hcp))
            go_simp
            clear pc pf OQ
            refine hK.out _ _ (trivial) (fun hHeld => ?_)
            clear hK K
            try simp only [Act.put, List.setIfInBounds_toArray, List.set_cons_zero, List.set_cons_succ]
            refine wpAnyH_done (by kernel_rfl) ?_ _
            have T := T.set (p := ⟨g, j * 2 + 1, none⟩) (Hdr.val (ha, m, hcp)) (by show b < g; omega)
            have kk := kk.setNew (p := ⟨g, j * 2 + 1, none⟩) (Hdr.val (ha, m, hcp)) hg
            have OQ := OQ2
            clear OQ2 own
            go_wp2_with fail
            exact ⟨⟨q - 1, _, _, by omega, by first | rfl | rw [hqm], OQ, lk_mono (lk_set LO.out j ⟨cok.out.1, by show (c.2.take m).length ≤ _; rw [List.length_take, ← HN3.out]; omega, fun y hy => cok.out.2.2 y (List.mem_of_mem_take hy)⟩) (by omega) (by omega), T, kk⟩, by simp [intOf]; omega⟩
          refine AllReadyH.cons (o := ⟨some 113, .load 53 (.tmp 112), 53, "tape.go:203", #[⟨11, .data⟩], none⟩) rfl (fun K hK => ?_) AllReadyH.nil
          · have cq := CE _ OQ
            go_simp
            clear cq
            refine hK.out _ _ (trivial) (fun hHeld => ?_)
            clear hK K
            try simp only [Act.put, List.setIfInBounds_toArray, List.set_cons_zero, List.set_cons_succ]
            refine wpAnyH_take (i := 13) (oi := ⟨some 114, .call { callee := .builtin .len, args := #[.tmp 113], argTypes := #[53] }, 3, "tape.go:203", #[⟨12, .data⟩], none⟩) (v := ?_) rfl (by kernel_rfl) (by kernel_rfl) (by kernel_rfl) (fun _ _ _ h => h) (Or.inl ⟨by rfl, ?hyr3x13q98⟩) (by assumption) ?restr3x13q98
            case hyr3x13q98 => intro wq hSw; (go_simp); (try with_reducible rfl)
            try simp only [Act.put, List.setIfInBounds_toArray, List.set_cons_zero, List.set_cons_succ]
            refine wpAnyH_take (i := 14) (oi := ⟨some 115, .binOp .add 3 (.tmp 114) (.const (.int .i64 1)) 3, 3, "tape.go:203", #[⟨13, .data⟩], none⟩) (v := ?_) rfl (by kernel_rfl) (by kernel_rfl) (by kernel_rfl) (fun _ _ _ h => h) (Or.inl ⟨by rfl, ?hyr3x14q101⟩) (by assumption) ?restr3x14q101
            case hyr3x14q101 => intro wq hSw; (go_simp); (try with_reducible rfl)
            try simp only [Act.put, List.setIfInBounds_toArray, List.set_cons_zero, List.set_cons_succ]
            refine wpAnyH_ready (rs := [6, 15]) (by kernel_rfl) (by simp) ?_
            refine AllReadyH.cons (o := ⟨some 107, .load 53 (.tmp 106), 53, "tape.go:203", #[⟨5, .data⟩], none⟩) rfl (fun K hK => ?_) ?_
            · have cq := CE _ OQ
              go_simp
              clear cq
              refine hK.out _ _ (trivial) (fun hHeld => ?_)
              clear hK K
              try simp only [Act.put, List.setIfInBounds_toArray, List.set_cons_zero, List.set_cons_succ]
              refine wpAnyH_ready (rs := [15]) (by kernel_rfl) (by simp) ?_
              refine AllReadyH.cons (o := ⟨some 116, .call { callee := .value (.func 13), args := #[.tmp 108, .tmp 115], argTypes := #[24, 3] }, 3, "tape.go:203", #[⟨7, .data⟩, ⟨14, .data⟩], none⟩) rfl (fun K hK => ?_) AllReadyH.nil
              go_simp
              ((with_reducible refine (next_t ((hn3 : Int) + 1) _ T (by omega) (by omega)).mono ?_))
              clear T
              rintro e w5 ⟨m, rfl, m0, m1, T, k2⟩
              obtain ⟨m, rfl⟩ := Int.eq_ofNat_of_zero_le m0
              replace OQ := OQ.nxb hbw k2
              replace own := own.nxb hbw k2
              replace kk := kk.nxb k2
              clear k2
              have hmc : (m : Int) ≤ (hcp : Int) := by omega
              have hml : m ≤ c.2.length := by rw [← HN3.out]; omega
              refine hK.out _ _ (trivial) (fun hHeld => ?_)
              clear hK K
              try simp only [Act.put, List.setIfInBounds_toArray, List.set_cons_zero, List.set_cons_succ]
              refine wpAnyH_take (i := 16) (oi := ⟨some 117, .slice 53 (.tmp 107) none (some (.tmp 116)) none, 53, "tape.go:203", #[⟨6, .data⟩, ⟨15, .data⟩], none⟩) (v := ?_) rfl (by kernel_rfl) (by kernel_rfl) (by kernel_rfl) (fun _ _ _ h => h) (Or.inl ⟨by rfl, ?hyr3x16q128⟩) (by assumption) ?restr3x16q128
              case hyr3x16q128 => intro wq hSw; (go_simp); (try with_reducible rfl)
              try simp only [Act.put, List.setIfInBounds_toArray, List.set_cons_zero, List.set_cons_succ]
              refine wpAnyH_take (i := 17) (oi := ⟨some 118, .indexAddr 31 (.tmp 101) (.tmp 102), 0, "tape.go:203", #[⟨0, .data⟩, ⟨1, .data⟩, ⟨0, .phase⟩, ⟨1, .phase⟩, ⟨2, .phase⟩, ⟨3, .phase⟩, ⟨4, .phase⟩, ⟨5, .phase⟩, ⟨6, .phase⟩, ⟨7, .phase⟩, ⟨8, .phase⟩, ⟨9, .phase⟩, ⟨10, .phase⟩, ⟨11, .phase⟩, ⟨12, .phase⟩, ⟨13, .phase⟩, ⟨14, .phase⟩, ⟨15, .phase⟩, ⟨16, .phase⟩], none⟩) (v := ?_) rfl (by kernel_rfl) (by kernel_rfl) (by kernel_rfl) (fun _ _ _ h => h) (Or.inl ⟨by rfl, ?hyr3x17q131⟩) (by assumption) ?restr3x17q131
              case hyr3x17q131 => intro wq hSw; (go_simp); (try with_reducible rfl)
              try simp only [Act.put, List.setIfInBounds_toArray, List.set_cons_zero, List.set_cons_succ]
              refine wpAnyH_take (i := 18) (oi := ⟨some 119, .fieldAddr 55 (.tmp 118) 1, 0, "tape.go:203", #[⟨17, .data⟩, ⟨0, .phase⟩, ⟨1, .phase⟩, ⟨2, .phase⟩, ⟨3, .phase⟩, ⟨4, .phase⟩, ⟨5, .phase⟩, ⟨6, .phase⟩, ⟨7, .phase⟩, ⟨8, .phase⟩, ⟨9, .phase⟩, ⟨10, .phase⟩, ⟨11, .phase⟩, ⟨12, .phase⟩, ⟨13, .phase⟩, ⟨14, .phase⟩, ⟨15, .phase⟩, ⟨16, .phase⟩], none⟩) (v := ?_) rfl (by kernel_rfl) (by kernel_rfl) (by kernel_rfl) (fun _ _ _ h => h) (Or.inl ⟨by rfl, ?hyr3x18q134⟩) (by assumption) ?restr3x18q134
              case hyr3x18q134 => intro wq hSw; (go_simp); (try with_reducible rfl)
              try simp only [Act.put, List.setIfInBounds_toArray, List.set_cons_zero, List.set_cons_succ]
              refine wpAnyH_ready (rs := [19]) (by kernel_rfl) (by simp) ?_
              refine AllReadyH.cons (o := ⟨none, .store 53 (.tmp 119) (.tmp 117), 0, "tape.go:203", #[⟨18, .data⟩, ⟨16, .data⟩, ⟨15, .chain⟩, ⟨0, .phase⟩, ⟨1, .phase⟩, ⟨2, .phase⟩, ⟨3, .phase⟩, ⟨4, .phase⟩, ⟨5, .phase⟩, ⟨6, .phase⟩, ⟨7, .phase⟩, ⟨8, .phase⟩, ⟨9, .phase⟩, ⟨10, .phase⟩, ⟨11, .phase⟩, ⟨12, .phase⟩, ⟨13, .phase⟩, ⟨14, .phase⟩, ⟨15, .phase⟩, ⟨16, .phase⟩], none⟩) rfl (fun K hK => ?_) AllReadyH.nil
              obtain ⟨pc, pf, OQ2⟩ := OwnN.put (p := 1) (fun _ => rfl) (by decide) OQ hqj (hd' := (ha, m, hcp)) (c' := c.2.take m) (own_cut own hml) (Chg.refl _ _) (.inl (own_cut_blk ha hn3 m hcp))
              go_simp
              clear pc pf OQ
              refine hK.out _ _ (trivial) (fun hHeld => ?_)
              clear hK K
              try simp only [Act.put, List.setIfInBounds_toArray, List.set_cons_zero, List.set_cons_succ]
              refine wpAnyH_done (by kernel_rfl) ?_ _
              have T := T.set (p := ⟨g, j * 2 + 1, none⟩) (Hdr.val (ha, m, hcp)) (by show b < g; omega)
              have kk := kk.setNew (p := ⟨g, j * 2 + 1, none⟩) (Hdr.val (ha, m, hcp)) hg
              have OQ := OQ2
              clear OQ2 own
              go_wp2_with fail
              exact ⟨⟨q - 1, _, _, by omega, by first | rfl | rw [hqm], OQ, lk_mono (lk_set LO.out j ⟨cok.out.1, by show (c.2.take m).length ≤ _; rw [List.length_take, ← HN3.out]; omega, fun y hy => cok.out.2.2 y (List.mem_of_mem_take hy)⟩) (by omega) (by omega), T, kk⟩, by simp [intOf]; omega⟩
            refine AllReadyH.cons (o := ⟨some 116, .call { callee := .value (.func 13), args := #[.tmp 108, .tmp 115], argTypes := #[24, 3] }, 3, "tape.go:203", #[⟨7, .data⟩, ⟨14, .data⟩], none⟩) rfl (fun K hK => ?_) AllReadyH.nil
            · go_simp
              ((with_reducible refine (next_t ((hn3 : Int) + 1) _ T (by omega) (by omega)).mono ?_))
              clear T
              rintro e w5 ⟨m, rfl, m0, m1, T, k2⟩
              obtain ⟨m, rfl⟩ := Int.eq_ofNat_of_zero_le m0
              replace OQ := OQ.nxb hbw k2
              replace own := own.nxb hbw k2
              replace kk := kk.nxb k2
              clear k2
              have hmc : (m : Int) ≤ (hcp : Int) := by omega
              have hml : m ≤ c.2.length := by rw [← HN3.out]; omega
              refine hK.out _ _ (trivial) (fun hHeld => ?_)
              clear hK K
              try simp only [Act.put, List.setIfInBounds_toArray, List.set_cons_zero, List.set_cons_succ]
              refine wpAnyH_ready (rs := [6]) (by kernel_rfl) (by simp) ?_
              refine AllReadyH.cons (o := ⟨some 107, .load 53 (.tmp 106), 53, "tape.go:203", #[⟨5, .data⟩], none⟩) rfl (fun K hK => ?_) AllReadyH.nil
              have cq := CE _ OQ
              go_simp
              clear cq
              refine hK.out _ _ (trivial) (fun hHeld => ?_)
              clear hK K
              try simp only [Act.put, List.setIfInBounds_toArray, List.set_cons_zero, List.set_cons_succ]
              refine wpAnyH_take (i := 16) (oi := ⟨some 117, .slice 53 (.tmp 107) none (some (.tmp 116)) none, 53, "tape.go:203", #[⟨6, .data⟩, ⟨15, .data⟩], none⟩) (v := ?_) rfl (by kernel_rfl) (by kernel_rfl) (by kernel_rfl) (fun _ _ _ h => h) (Or.inl ⟨by rfl, ?hyr3x16q170⟩) (by assumption) ?restr3x16q170
              case hyr3x16q170 => intro wq hSw; (go_simp); (try with_reducible rfl)
              try simp only [Act.put, List.setIfInBounds_toArray, List.set_cons_zero, List.set_cons_succ]
              refine wpAnyH_take (i := 17) (oi := ⟨some 118, .indexAddr 31 (.tmp 101) (.tmp 102), 0, "tape.go:203", #[⟨0, .data⟩, ⟨1, .data⟩, ⟨0, .phase⟩, ⟨1, .phase⟩, ⟨2, .phase⟩, ⟨3, .phase⟩, ⟨4, .phase⟩, ⟨5, .phase⟩, ⟨6, .phase⟩, ⟨7, .phase⟩, ⟨8, .phase⟩, ⟨9, .phase⟩, ⟨10, .phase⟩, ⟨11, .phase⟩, ⟨12, .phase⟩, ⟨13, .phase⟩, ⟨14, .phase⟩, ⟨15, .phase⟩, ⟨16, .phase⟩], none⟩) (v := ?_) rfl (by kernel_rfl) (by kernel_rfl) (by kernel_rfl) (fun _ _ _ h => h) (Or.inl ⟨by rfl, ?hyr3x17q173⟩) (by assumption) ?restr3x17q173
              case hyr3x17q173 => intro wq hSw; (go_simp); (try with_reducible rfl)
              try simp only [Act.put, List.setIfInBounds_toArray, List.set_cons_zero, List.set_cons_succ]
              refine wpAnyH_take (i := 18) (oi := ⟨some 119, .fieldAddr 55 (.tmp 118) 1, 0, "tape.go:203", #[⟨17, .data⟩, ⟨0, .phase⟩, ⟨1, .phase⟩, ⟨2, .phase⟩, ⟨3, .phase⟩, ⟨4, .phase⟩, ⟨5, .phase⟩, ⟨6, .phase⟩, ⟨7, .phase⟩, ⟨8, .phase⟩, ⟨9, .phase⟩, ⟨10, .phase⟩, ⟨11, .phase⟩, ⟨12, .phase⟩, ⟨13, .phase⟩, ⟨14, .phase⟩, ⟨15, .phase⟩, ⟨16, .phase⟩], none⟩) (v := ?_) rfl (by kernel_rfl) (by kernel_rfl) (by kernel_rfl) (fun _ _ _ h => h) (Or.inl ⟨by rfl, ?hyr3x18q176⟩) (by assumption) ?restr3x18q176
              case hyr3x18q176 => intro wq hSw; (go_simp); (try with_reducible rfl)
              try simp only [Act.put, List.setIfInBounds_toArray, List.set_cons_zero, List.set_cons_succ]
              refine wpAnyH_ready (rs := [19]) (by kernel_rfl) (by simp) ?_
              refine AllReadyH.cons (o := ⟨none, .store 53 (.tmp 119) (.tmp 117), 0, "tape.go:203", #[⟨18, .data⟩, ⟨16, .data⟩, ⟨15, .chain⟩, ⟨0, .phase⟩, ⟨1, .phase⟩, ⟨2, .phase⟩, ⟨3, .phase⟩, ⟨4, .phase⟩, ⟨5, .phase⟩, ⟨6, .phase⟩, ⟨7, .phase⟩, ⟨8, .phase⟩, ⟨9, .phase⟩, ⟨10, .phase⟩, ⟨11, .phase⟩, ⟨12, .phase⟩, ⟨13, .phase⟩, ⟨14, .phase⟩, ⟨15, .phase⟩, ⟨16, .phase⟩], none⟩) rfl (fun K hK => ?_) AllReadyH.nil
              obtain ⟨pc, pf, OQ2⟩ := OwnN.put (p := 1) (fun _ => rfl) (by decide) OQ hqj (hd' := (ha, m, hcp)) (c' := c.2.take m) (own_cut own hml) (Chg.refl _ _) (.inl (own_cut_blk ha hn3 m hcp))
              go_simp
              clear pc pf OQ
              refine hK.out _ _ (trivial) (fun hHeld => ?_)
              clear hK K
              try simp only [Act.put, List.setIfInBounds_toArray, List.set_cons_zero, List.set_cons_succ]
              refine wpAnyH_done (by kernel_rfl) ?_ _
              have T := T.set (p := ⟨g, j * 2 + 1, none⟩) (Hdr.val (ha, m, hcp)) (by show b < g; omega)
              have kk := kk.setNew (p := ⟨g, j * 2 + 1, none⟩) (Hdr.val (ha, m, hcp)) hg
              have OQ := OQ2
              clear OQ2 own
              go_wp2_with fail
              exact ⟨⟨q - 1, _, _, by omega, by first | rfl | rw [hqm], OQ, lk_mono (lk_set LO.out j ⟨cok.out.1, by show (c.2.take m).length ≤ _; rw [List.length_take, ← HN3.out]; omega, fun y hy => cok.out.2.2 y (List.mem_of_mem_take hy)⟩) (by omega) (by omega), T, kk⟩, by simp [intOf]; omega⟩
        by_cases r03 : r = 3
        · subst r03
          clear r00 r01 r02
          obtain ⟨a6, c6, e6, r6, hc6, _, some6⟩ := own.rd (fun _ => rfl)
          obtain ⟨rfl, hn3e, rfl⟩ : ha = a6 ∧ hn3 = c.2.length ∧ hcp = c6 := by simpa [Hdr.val] using e6
          have HN3 := Lib.hid hn3e
          have hcl : hn3 ≤ 17 + (ch - q) := by rw [hn3e]; exact cok.out.2.1
          rw [← hn3e] at hc6
          have jw3 : IntKind.i64.wrap ((hn3 : Int) + 1) = (hn3 : Int) + 1 := IntWalk.i64_in _ (by omega)
          clear hn3e
          clear e6 r6 some6
          have OQ := OQ.nx (Ex.refl w4).drew
          have own := own.nx (Ex.refl w4).drew
          have T : TK w4.drew b := T
          have kk := kk.drew
          have CE : ∀ cur : World, OwnLk w.heap.size cur (.slice (some ⟨g, 0, none⟩) L.length cap3) qs L → cur.cell? ⟨g, j * 2 + 1, none⟩ = some (.slice ha hn3 hcp) := fun cur h => by
            have := (OwnW.set1 (sz := 2) (enc := encP encI) (c := 1) (fun _ => rfl) h.1 hqj (by omega)).1
            exact this
          go_wp2_with fail
          refine wp_region_held_drew (S := fun _ => True) (by kernel_rfl) (trivial) (fun hHeld => ?_)
          refine wpAnyH_take (i := 0) (oi := ⟨some 122, .move (.tmp 9), 31, "tape.go:205", #[], none⟩) (v := ?_) rfl (by kernel_rfl) (by kernel_rfl) (by kernel_rfl) (fun _ _ _ h => h) (Or.inl ⟨by rfl, ?hyr4x0q1⟩) (by assumption) ?restr4x0q1
          case hyr4x0q1 => intro wq hSw; (go_simp); (try with_reducible rfl)
          try simp only [Act.put, List.setIfInBounds_toArray, List.set_cons_zero, List.set_cons_succ]
          refine wpAnyH_take (i := 1) (oi := ⟨some 123, .move (.tmp 12), 3, "tape.go:205", #[], none⟩) (v := ?_) rfl (by kernel_rfl) (by kernel_rfl) (by kernel_rfl) (fun _ _ _ h => h) (Or.inl ⟨by rfl, ?hyr4x1q4⟩) (by assumption) ?restr4x1q4
          case hyr4x1q4 => intro wq hSw; (go_simp); (try with_reducible rfl)
          try simp only [Act.put, List.setIfInBounds_toArray, List.set_cons_zero, List.set_cons_succ]
          refine wpAnyH_take (i := 2) (oi := ⟨some 124, .move (.tmp 9), 31, "tape.go:205", #[], none⟩) (v := ?_) rfl (by kernel_rfl) (by kernel_rfl) (by kernel_rfl) (fun _ _ _ h => h) (Or.inl ⟨by rfl, ?hyr4x2q7⟩) (by assumption) ?restr4x2q7
          case hyr4x2q7 => intro wq hSw; (go_simp); (try with_reducible rfl)
          try simp only [Act.put, List.setIfInBounds_toArray, List.set_cons_zero, List.set_cons_succ]
          refine wpAnyH_take (i := 3) (oi := ⟨some 125, .move (.tmp 12), 3, "tape.go:205", #[], none⟩) (v := ?_) rfl (by kernel_rfl) (by kernel_rfl) (by kernel_rfl) (fun _ _ _ h => h) (Or.inl ⟨by rfl, ?hyr4x3q10⟩) (by assumption) ?restr4x3q10
          case hyr4x3q10 => intro wq hSw; (go_simp); (try with_reducible rfl)
          try simp only [Act.put, List.setIfInBounds_toArray, List.set_cons_zero, List.set_cons_succ]
          refine wpAnyH_take (i := 4) (oi := ⟨some 126, .indexAddr 31 (.tmp 124) (.tmp 125), 0, "tape.go:205", #[⟨2, .data⟩, ⟨3, .data⟩], none⟩) (v := ?_) rfl (by kernel_rfl) (by kernel_rfl) (by kernel_rfl) (fun _ _ _ h => h) (Or.inl ⟨by rfl, ?hyr4x4q13⟩) (by assumption) ?restr4x4q13
          case hyr4x4q13 => intro wq hSw; (go_simp); (try with_reducible rfl)
          try simp only [Act.put, List.setIfInBounds_toArray, List.set_cons_zero, List.set_cons_succ]
          refine wpAnyH_take (i := 5) (oi := ⟨some 127, .fieldAddr 55 (.tmp 126) 1, 0, "tape.go:205", #[⟨4, .data⟩], none⟩) (v := ?_) rfl (by kernel_rfl) (by kernel_rfl) (by kernel_rfl) (fun _ _ _ h => h) (Or.inl ⟨by rfl, ?hyr4x5q16⟩) (by assumption) ?restr4x5q16
          case hyr4x5q16 => intro wq hSw; (go_simp); (try with_reducible rfl)
          try simp only [Act.put, List.setIfInBounds_toArray, List.set_cons_zero, List.set_cons_succ]
          refine wpAnyH_take (i := 7) (oi := ⟨some 129, .move (.tmp 0), 24, "tape.go:205", #[], none⟩) (v := ?_) rfl (by kernel_rfl) (by kernel_rfl) (by kernel_rfl) (fun _ _ _ h => h) (Or.inl ⟨by rfl, ?hyr4x7q19⟩) (by assumption) ?restr4x7q19
          case hyr4x7q19 => intro wq hSw; (go_simp); (try with_reducible rfl)
          try simp only [Act.put, List.setIfInBounds_toArray, List.set_cons_zero, List.set_cons_succ]
          refine wpAnyH_take (i := 8) (oi := ⟨some 130, .move (.tmp 1), 23, "tape.go:205", #[], none⟩) (v := ?_) rfl (by kernel_rfl) (by kernel_rfl) (by kernel_rfl) (fun _ _ _ h => h) (Or.inl ⟨by rfl, ?hyr4x8q22⟩) (by assumption) ?restr4x8q22
          case hyr4x8q22 => intro wq hSw; (go_simp); (try with_reducible rfl)
          try simp only [Act.put, List.setIfInBounds_toArray, List.set_cons_zero, List.set_cons_succ]
          refine wpAnyH_take (i := 10) (oi := ⟨some 132, .move (.tmp 0), 24, "tape.go:205", #[], none⟩) (v := ?_) rfl (by kernel_rfl) (by kernel_rfl) (by kernel_rfl) (fun _ _ _ h => h) (Or.inl ⟨by rfl, ?hyr4x10q25⟩) (by assumption) ?restr4x10q25
          case hyr4x10q25 => intro wq hSw; (go_simp); (try with_reducible rfl)
          try simp only [Act.put, List.setIfInBounds_toArray, List.set_cons_zero, List.set_cons_succ]
          refine wpAnyH_take (i := 11) (oi := ⟨some 133, .move (.tmp 1), 23, "tape.go:205", #[], none⟩) (v := ?_) rfl (by kernel_rfl) (by kernel_rfl) (by kernel_rfl) (fun _ _ _ h => h) (Or.inl ⟨by rfl, ?hyr4x11q28⟩) (by assumption) ?restr4x11q28
          case hyr4x11q28 => intro wq hSw; (go_simp); (try with_reducible rfl)
          try simp only [Act.put, List.setIfInBounds_toArray, List.set_cons_zero, List.set_cons_succ]
          refine wpAnyH_ready (rs := [6, 9]) (by kernel_rfl) (by simp) ?_
          refine AllReadyH.cons (o := ⟨some 128, .load 53 (.tmp 127), 53, "tape.go:205", #[⟨5, .data⟩], none⟩) rfl (fun K hK => ?_) ?_
          · have cq := CE _ OQ
            go_simp
            clear cq
            refine hK.out _ _ (trivial) (fun hHeld => ?_)
            clear hK K
            try simp only [Act.put, List.setIfInBounds_toArray, List.set_cons_zero, List.set_cons_succ]
            refine wpAnyH_ready (rs := [9]) (by kernel_rfl) (by simp) ?_
            refine AllReadyH.cons (o := ⟨some 131, .call { callee := .value (.func 11), args := #[.tmp 129, .tmp 130], argTypes := #[24, 23] }, 3, "tape.go:205", #[⟨7, .data⟩, ⟨8, .data⟩], none⟩) rfl (fun K hK => ?_) AllReadyH.nil
            go_simp
            (refine (id_t _ _ _ _ _ T (HS.out.nxb kk) (by omega) HI.out).mono ?_)
            clear T
            rintro e w5 ⟨i2, rfl, I2, T, k2⟩
            replace OQ := OQ.nxb hbw k2
            replace own := own.nxb hbw k2
            replace kk := kk.nxb k2
            clear k2
            refine hK.out _ _ (trivial) (fun hHeld => ?_)
            clear hK K
            try simp only [Act.put, List.setIfInBounds_toArray, List.set_cons_zero, List.set_cons_succ]
            refine wpAnyH_ready (rs := [12]) (by kernel_rfl) (by simp) ?_
            refine AllReadyH.cons (o := ⟨some 134, .call { callee := .value (.func 11), args := #[.tmp 132, .tmp 133], argTypes := #[24, 23] }, 3, "tape.go:205", #[⟨10, .data⟩, ⟨11, .data⟩, ⟨9, .chain⟩], none⟩) rfl (fun K hK => ?_) AllReadyH.nil
            go_simp
            (refine (id_t _ _ _ _ _ T (HS.out.nxb kk) (by omega) HI.out).mono ?_)
            clear T
            rintro e w6 ⟨i3, rfl, I3, T, k2⟩
            replace OQ := OQ.nxb hbw k2
            replace own := own.nxb hbw k2
            replace kk := kk.nxb k2
            clear k2
            refine hK.out _ _ (trivial) (fun hHeld => ?_)
            clear hK K
            try simp only [Act.put, List.setIfInBounds_toArray, List.set_cons_zero, List.set_cons_succ]
            refine wpAnyH_take (i := 13) (oi := ⟨some 135, .build 36 #[(0, .tmp 131), (1, .tmp 134)], 36, "tape.go:205", #[⟨9, .data⟩, ⟨12, .data⟩], none⟩) (v := ?_) rfl (by kernel_rfl) (by kernel_rfl) (by kernel_rfl) (fun _ _ _ h => h) (Or.inl ⟨by rfl, ?hyr4x13q65⟩) (by assumption) ?restr4x13q65
            case hyr4x13q65 => intro wq hSw; (go_simp); (try with_reducible rfl)
            try simp only [Act.put, List.setIfInBounds_toArray, List.set_cons_zero, List.set_cons_succ]
            refine wpAnyH_ready (rs := [14]) (by kernel_rfl) (by simp) ?_
            refine AllReadyH.cons (o := ⟨some 136, .buildSlice 53 1 #[(0, .tmp 135)], 53, "tape.go:205", #[⟨13, .data⟩], none⟩) rfl (fun K hK => ?_) AllReadyH.nil
            have SX : Sl 2 encS (w6.alloc (.cells #[.int .i64 i2, .int .i64 i3] 36)) (some ⟨w6.heap.size, 0, none⟩) 1 [(i2, i3)] := Sl.lit _ rfl rfl (fun _ => rfl) rfl
            go_simp
            have k8 := Ex.new w6 (.cells #[.int .i64 i2, .int .i64 i3] 36)
            replace OQ := OQ.nx k8
            replace own := own.nx k8
            replace kk := kk.nxb (k8.b b)
            replace T := T.nx k8
            clear k8
            refine hK.out _ _ (trivial) (fun hHeld => ?_)
            clear hK K
            try simp only [Act.put, List.setIfInBounds_toArray, List.set_cons_zero, List.set_cons_succ]
            refine wpAnyH_ready (rs := [15]) (by kernel_rfl) (by simp) ?_
            refine AllReadyH.cons (o := ⟨some 137, .call { callee := .builtin .append, args := #[.tmp 128, .tmp 136], argTypes := #[53, 53] }, 53, "tape.go:205", #[⟨6, .data⟩, ⟨14, .data⟩, ⟨12, .chain⟩], none⟩) rfl (fun K hK => ?_) AllReadyH.nil
            rw [if_pos (by rfl)]
            have z6 := kk.size
            refine wp_append_rda (enc := encS) _ (.tmp 128) (.tmp 136) 53 rfl w.heap.size 36 (.agg #[.int .i64 0, .int .i64 0]) 2 16 Tryd.underlying53 Tryd.infoLk rfl (by omega) (by omega) _ c.2 own rfl _ _ 1 1 [_] SX (fun h => by cases h) (fun _ => rfl) (by simp [encS, Value.oneCell']) rfl (by rw [← HN3.out]; omega) (by omega) z6 ?_
            intro v9 w9 own9 ch0 ch1 hat
            obtain ⟨a9, c9, rfl, _, _, _, _⟩ := own9.rd (fun _ => rfl)
            obtain ⟨pc, pf, OQ2⟩ := OwnN.put (p := 1) (fun _ => rfl) (by decide) OQ hqj (hd' := (a9, (c.2 ++ [(i2, i3)]).length, c9)) (c' := c.2 ++ [(i2, i3)]) own9 ch0 (hat.imp id (fun h x hx => by have h2 := h.symm.trans hx; cases h2; exact Nat.le_refl _))
            have hll : (c.2 ++ [(i2, i3)]).length = hn3 + 1 := by rw [HN3.out]; simp
            simp only [Hdr.val, hll] at OQ2
            have kk : Exb b w w9 := Chg.trans kk (ch1.mono (fun x hx => hx.1))
            have T := TP.chg T ch1 (fun x hx => by omega)
            clear own9 ch0 ch1 hat
            refine hK.out _ _ (trivial) (fun hHeld => ?_)
            clear hK K
            try simp only [Act.put, List.setIfInBounds_toArray, List.set_cons_zero, List.set_cons_succ]
            refine wpAnyH_take (i := 16) (oi := ⟨some 138, .indexAddr 31 (.tmp 122) (.tmp 123), 0, "tape.go:205", #[⟨0, .data⟩, ⟨1, .data⟩, ⟨0, .phase⟩, ⟨1, .phase⟩, ⟨2, .phase⟩, ⟨3, .phase⟩, ⟨4, .phase⟩, ⟨5, .phase⟩, ⟨6, .phase⟩, ⟨7, .phase⟩, ⟨8, .phase⟩, ⟨9, .phase⟩, ⟨10, .phase⟩, ⟨11, .phase⟩, ⟨12, .phase⟩, ⟨13, .phase⟩, ⟨14, .phase⟩, ⟨15, .phase⟩], none⟩) (v := ?_) rfl (by kernel_rfl) (by kernel_rfl) (by kernel_rfl) (fun _ _ _ h => h) (Or.inl ⟨by rfl, ?hyr4x16q97⟩) (by assumption) ?restr4x16q97
            case hyr4x16q97 => intro wq hSw; (go_simp); (try with_reducible rfl)
            try simp only [Act.put, List.setIfInBounds_toArray, List.set_cons_zero, List.set_cons_succ]
            refine wpAnyH_take (i := 17) (oi := ⟨some 139, .fieldAddr 55 (.tmp 138) 1, 0, "tape.go:205", #[⟨16, .data⟩, ⟨0, .phase⟩, ⟨1, .phase⟩, ⟨2, .phase⟩, ⟨3, .phase⟩, ⟨4, .phase⟩, ⟨5, .phase⟩, ⟨6, .phase⟩, ⟨7, .phase⟩, ⟨8, .phase⟩, ⟨9, .phase⟩, ⟨10, .phase⟩, ⟨11, .phase⟩, ⟨12, .phase⟩, ⟨13, .phase⟩, ⟨14, .phase⟩, ⟨15, .phase⟩], none⟩) (v := ?_) rfl (by kernel_rfl) (by kernel_rfl) (by kernel_rfl) (fun _ _ _ h => h) (Or.inl ⟨by rfl, ?hyr4x17q100⟩) (by assumption) ?restr4x17q100
            case hyr4x17q100 => intro wq hSw; (go_simp); (try with_reducible rfl)
            try simp only [Act.put, List.setIfInBounds_toArray, List.set_cons_zero, List.set_cons_succ]
            refine wpAnyH_ready (rs := [18]) (by kernel_rfl) (by simp) ?_
            refine AllReadyH.cons (o := ⟨none, .store 53 (.tmp 139) (.tmp 137), 0, "tape.go:205", #[⟨17, .data⟩, ⟨15, .data⟩, ⟨15, .chain⟩, ⟨0, .phase⟩, ⟨1, .phase⟩, ⟨2, .phase⟩, ⟨3, .phase⟩, ⟨4, .phase⟩, ⟨5, .phase⟩, ⟨6, .phase⟩, ⟨7, .phase⟩, ⟨8, .phase⟩, ⟨9, .phase⟩, ⟨10, .phase⟩, ⟨11, .phase⟩, ⟨12, .phase⟩, ⟨13, .phase⟩, ⟨14, .phase⟩, ⟨15, .phase⟩], none⟩) rfl (fun K hK => ?_) AllReadyH.nil
            go_simp
            clear pc pf OQ
            refine hK.out _ _ (trivial) (fun hHeld => ?_)
            clear hK K
            try simp only [Act.put, List.setIfInBounds_toArray, List.set_cons_zero, List.set_cons_succ]
            refine wpAnyH_done (by kernel_rfl) ?_ _
            have T : TK (w9.setCell ⟨g, j * 2 + 1, none⟩ (.slice a9 (hn3 + 1) c9)) b := TK.set T (p := ⟨g, j * 2 + 1, none⟩) _ (by show b < g; omega)
            have kk := kk.setNew (p := ⟨g, j * 2 + 1, none⟩) (.slice a9 (hn3 + 1) c9) hg
            have OQ := OQ2
            clear OQ2 own SX
            go_wp2_with fail
            exact ⟨⟨q - 1, _, _, by omega, by first | rfl | rw [hqm], OQ, lk_mono (lk_set (B2 := 17 + (ch - q) + 1) (lk_mono LO.out (Nat.le_refl _) (by omega)) j ⟨cok.out.1, by show (c.2 ++ [(i2, i3)]).length ≤ _; rw [hll]; omega, fun y hy => by rcases List.mem_append.1 hy with h1 | h1; exact cok.out.2.2 y h1; rw [List.mem_singleton.1 h1]; exact ⟨I2, I3⟩⟩) (by omega) (by omega), T, kk⟩, by simp [intOf]; omega⟩
          refine AllReadyH.cons (o := ⟨some 131, .call { callee := .value (.func 11), args := #[.tmp 129, .tmp 130], argTypes := #[24, 23] }, 3, "tape.go:205", #[⟨7, .data⟩, ⟨8, .data⟩], none⟩) rfl (fun K hK => ?_) AllReadyH.nil
          · go_simp
            (refine (id_t _ _ _ _ _ T (HS.out.nxb kk) (by omega) HI.out).mono ?_)
            clear T
            rintro e w5 ⟨i2, rfl, I2, T, k2⟩
            replace OQ := OQ.nxb hbw k2
            replace own := own.nxb hbw k2
            replace kk := kk.nxb k2
            clear k2
            refine hK.out _ _ (trivial) (fun hHeld => ?_)
            clear hK K
            try simp only [Act.put, List.setIfInBounds_toArray, List.set_cons_zero, List.set_cons_succ]
            refine wpAnyH_ready (rs := [6, 12]) (by kernel_rfl) (by simp) ?_
            refine AllReadyH.cons (o := ⟨some 128, .load 53 (.tmp 127), 53, "tape.go:205", #[⟨5, .data⟩], none⟩) rfl (fun K hK => ?_) ?_
            · have cq := CE _ OQ
              go_simp
              clear cq
              refine hK.out _ _ (trivial) (fun hHeld => ?_)
              clear hK K
              try simp only [Act.put, List.setIfInBounds_toArray, List.set_cons_zero, List.set_cons_succ]
              refine wpAnyH_ready (rs := [12]) (by kernel_rfl) (by simp) ?_
              refine AllReadyH.cons (o := ⟨some 134, .call { callee := .value (.func 11), args := #[.tmp 132, .tmp 133], argTypes := #[24, 23] }, 3, "tape.go:205", #[⟨10, .data⟩, ⟨11, .data⟩, ⟨9, .chain⟩], none⟩) rfl (fun K hK => ?_) AllReadyH.nil
              go_simp
              (refine (id_t _ _ _ _ _ T (HS.out.nxb kk) (by omega) HI.out).mono ?_)
              clear T
              rintro e w6 ⟨i3, rfl, I3, T, k2⟩
              replace OQ := OQ.nxb hbw k2
              replace own := own.nxb hbw k2
              replace kk := kk.nxb k2
              clear k2
              refine hK.out _ _ (trivial) (fun hHeld => ?_)
              clear hK K
              try simp only [Act.put, List.setIfInBounds_toArray, List.set_cons_zero, List.set_cons_succ]
              refine wpAnyH_take (i := 13) (oi := ⟨some 135, .build 36 #[(0, .tmp 131), (1, .tmp 134)], 36, "tape.go:205", #[⟨9, .data⟩, ⟨12, .data⟩], none⟩) (v := ?_) rfl (by kernel_rfl) (by kernel_rfl) (by kernel_rfl) (fun _ _ _ h => h) (Or.inl ⟨by rfl, ?hyr4x13q145⟩) (by assumption) ?restr4x13q145
              case hyr4x13q145 => intro wq hSw; (go_simp); (try with_reducible rfl)
              try simp only [Act.put, List.setIfInBounds_toArray, List.set_cons_zero, List.set_cons_succ]
              refine wpAnyH_ready (rs := [14]) (by kernel_rfl) (by simp) ?_
              refine AllReadyH.cons (o := ⟨some 136, .buildSlice 53 1 #[(0, .tmp 135)], 53, "tape.go:205", #[⟨13, .data⟩], none⟩) rfl (fun K hK => ?_) AllReadyH.nil
              have SX : Sl 2 encS (w6.alloc (.cells #[.int .i64 i2, .int .i64 i3] 36)) (some ⟨w6.heap.size, 0, none⟩) 1 [(i2, i3)] := Sl.lit _ rfl rfl (fun _ => rfl) rfl
              go_simp
              have k8 := Ex.new w6 (.cells #[.int .i64 i2, .int .i64 i3] 36)
              replace OQ := OQ.nx k8
              replace own := own.nx k8
              replace kk := kk.nxb (k8.b b)
              replace T := T.nx k8
              clear k8
              refine hK.out _ _ (trivial) (fun hHeld => ?_)
              clear hK K
              try simp only [Act.put, List.setIfInBounds_toArray, List.set_cons_zero, List.set_cons_succ]
              refine wpAnyH_ready (rs := [15]) (by kernel_rfl) (by simp) ?_
              refine AllReadyH.cons (o := ⟨some 137, .call { callee := .builtin .append, args := #[.tmp 128, .tmp 136], argTypes := #[53, 53] }, 53, "tape.go:205", #[⟨6, .data⟩, ⟨14, .data⟩, ⟨12, .chain⟩], none⟩) rfl (fun K hK => ?_) AllReadyH.nil
              rw [if_pos (by rfl)]
              have z6 := kk.size
              refine wp_append_rda (enc := encS) _ (.tmp 128) (.tmp 136) 53 rfl w.heap.size 36 (.agg #[.int .i64 0, .int .i64 0]) 2 16 Tryd.underlying53 Tryd.infoLk rfl (by omega) (by omega) _ c.2 own rfl _ _ 1 1 [_] SX (fun h => by cases h) (fun _ => rfl) (by simp [encS, Value.oneCell']) rfl (by rw [← HN3.out]; omega) (by omega) z6 ?_
              intro v9 w9 own9 ch0 ch1 hat
              obtain ⟨a9, c9, rfl, _, _, _, _⟩ := own9.rd (fun _ => rfl)
              obtain ⟨pc, pf, OQ2⟩ := OwnN.put (p := 1) (fun _ => rfl) (by decide) OQ hqj (hd' := (a9, (c.2 ++ [(i2, i3)]).length, c9)) (c' := c.2 ++ [(i2, i3)]) own9 ch0 (hat.imp id (fun h x hx => by have h2 := h.symm.trans hx; cases h2; exact Nat.le_refl _))
              have hll : (c.2 ++ [(i2, i3)]).length = hn3 + 1 := by rw [HN3.out]; simp
              simp only [Hdr.val, hll] at OQ2
              have kk : Exb b w w9 := Chg.trans kk (ch1.mono (fun x hx => hx.1))
              have T := TP.chg T ch1 (fun x hx => by omega)
              clear own9 ch0 ch1 hat
              refine hK.out _ _ (trivial) (fun hHeld => ?_)
              clear hK K
              try simp only [Act.put, List.setIfInBounds_toArray, List.set_cons_zero, List.set_cons_succ]
              refine wpAnyH_take (i := 16) (oi := ⟨some 138, .indexAddr 31 (.tmp 122) (.tmp 123), 0, "tape.go:205", #[⟨0, .data⟩, ⟨1, .data⟩, ⟨0, .phase⟩, ⟨1, .phase⟩, ⟨2, .phase⟩, ⟨3, .phase⟩, ⟨4, .phase⟩, ⟨5, .phase⟩, ⟨6, .phase⟩, ⟨7, .phase⟩, ⟨8, .phase⟩, ⟨9, .phase⟩, ⟨10, .phase⟩, ⟨11, .phase⟩, ⟨12, .phase⟩, ⟨13, .phase⟩, ⟨14, .phase⟩, ⟨15, .phase⟩], none⟩) (v := ?_) rfl (by kernel_rfl) (by kernel_rfl) (by kernel_rfl) (fun _ _ _ h => h) (Or.inl ⟨by rfl, ?hyr4x16q177⟩) (by assumption) ?restr4x16q177
              case hyr4x16q177 => intro wq hSw; (go_simp); (try with_reducible rfl)
              try simp only [Act.put, List.setIfInBounds_toArray, List.set_cons_zero, List.set_cons_succ]
              refine wpAnyH_take (i := 17) (oi := ⟨some 139, .fieldAddr 55 (.tmp 138) 1, 0, "tape.go:205", #[⟨16, .data⟩, ⟨0, .phase⟩, ⟨1, .phase⟩, ⟨2, .phase⟩, ⟨3, .phase⟩, ⟨4, .phase⟩, ⟨5, .phase⟩, ⟨6, .phase⟩, ⟨7, .phase⟩, ⟨8, .phase⟩, ⟨9, .phase⟩, ⟨10, .phase⟩, ⟨11, .phase⟩, ⟨12, .phase⟩, ⟨13, .phase⟩, ⟨14, .phase⟩, ⟨15, .phase⟩], none⟩) (v := ?_) rfl (by kernel_rfl) (by kernel_rfl) (by kernel_rfl) (fun _ _ _ h => h) (Or.inl ⟨by rfl, ?hyr4x17q180⟩) (by assumption) ?restr4x17q180
              case hyr4x17q180 => intro wq hSw; (go_simp); (try with_reducible rfl)
              try simp only [Act.put, List.setIfInBounds_toArray, List.set_cons_zero, List.set_cons_succ]
              refine wpAnyH_ready (rs := [18]) (by kernel_rfl) (by simp) ?_
              refine AllReadyH.cons (o := ⟨none, .store 53 (.tmp 139) (.tmp 137), 0, "tape.go:205", #[⟨17, .data⟩, ⟨15, .data⟩, ⟨15, .chain⟩, ⟨0, .phase⟩, ⟨1, .phase⟩, ⟨2, .phase⟩, ⟨3, .phase⟩, ⟨4, .phase⟩, ⟨5, .phase⟩, ⟨6, .phase⟩, ⟨7, .phase⟩, ⟨8, .phase⟩, ⟨9, .phase⟩, ⟨10, .phase⟩, ⟨11, .phase⟩, ⟨12, .phase⟩, ⟨13, .phase⟩, ⟨14, .phase⟩, ⟨15, .phase⟩], none⟩) rfl (fun K hK => ?_) AllReadyH.nil
              go_simp
              clear pc pf OQ
              refine hK.out _ _ (trivial) (fun hHeld => ?_)
              clear hK K
              try simp only [Act.put, List.setIfInBounds_toArray, List.set_cons_zero, List.set_cons_succ]
              refine wpAnyH_done (by kernel_rfl) ?_ _
              have T : TK (w9.setCell ⟨g, j * 2 + 1, none⟩ (.slice a9 (hn3 + 1) c9)) b := TK.set T (p := ⟨g, j * 2 + 1, none⟩) _ (by show b < g; omega)
              have kk := kk.setNew (p := ⟨g, j * 2 + 1, none⟩) (.slice a9 (hn3 + 1) c9) hg
              have OQ := OQ2
              clear OQ2 own SX
              go_wp2_with fail
              exact ⟨⟨q - 1, _, _, by omega, by first | rfl | rw [hqm], OQ, lk_mono (lk_set (B2 := 17 + (ch - q) + 1) (lk_mono LO.out (Nat.le_refl _) (by omega)) j ⟨cok.out.1, by show (c.2 ++ [(i2, i3)]).length ≤ _; rw [hll]; omega, fun y hy => by rcases List.mem_append.1 hy with h1 | h1; exact cok.out.2.2 y h1; rw [List.mem_singleton.1 h1]; exact ⟨I2, I3⟩⟩) (by omega) (by omega), T, kk⟩, by simp [intOf]; omega⟩
            refine AllReadyH.cons (o := ⟨some 134, .call { callee := .value (.func 11), args := #[.tmp 132, .tmp 133], argTypes := #[24, 23] }, 3, "tape.go:205", #[⟨10, .data⟩, ⟨11, .data⟩, ⟨9, .chain⟩], none⟩) rfl (fun K hK => ?_) AllReadyH.nil
            · go_simp
              (refine (id_t _ _ _ _ _ T (HS.out.nxb kk) (by omega) HI.out).mono ?_)
              clear T
              rintro e w6 ⟨i3, rfl, I3, T, k2⟩
              replace OQ := OQ.nxb hbw k2
              replace own := own.nxb hbw k2
              replace kk := kk.nxb k2
              clear k2
              refine hK.out _ _ (trivial) (fun hHeld => ?_)
              clear hK K
              try simp only [Act.put, List.setIfInBounds_toArray, List.set_cons_zero, List.set_cons_succ]
              refine wpAnyH_take (i := 13) (oi := ⟨some 135, .build 36 #[(0, .tmp 131), (1, .tmp 134)], 36, "tape.go:205", #[⟨9, .data⟩, ⟨12, .data⟩], none⟩) (v := ?_) rfl (by kernel_rfl) (by kernel_rfl) (by kernel_rfl) (fun _ _ _ h => h) (Or.inl ⟨by rfl, ?hyr4x13q204⟩) (by assumption) ?restr4x13q204
              case hyr4x13q204 => intro wq hSw; (go_simp); (try with_reducible rfl)
              try simp only [Act.put, List.setIfInBounds_toArray, List.set_cons_zero, List.set_cons_succ]
              refine wpAnyH_ready (rs := [6, 14]) (by kernel_rfl) (by simp) ?_
              refine AllReadyH.cons (o := ⟨some 128, .load 53 (.tmp 127), 53, "tape.go:205", #[⟨5, .data⟩], none⟩) rfl (fun K hK => ?_) ?_
              · have cq := CE _ OQ
                go_simp
                clear cq
                refine hK.out _ _ (trivial) (fun hHeld => ?_)
                clear hK K
                try simp only [Act.put, List.setIfInBounds_toArray, List.set_cons_zero, List.set_cons_succ]
                refine wpAnyH_ready (rs := [14]) (by kernel_rfl) (by simp) ?_
                refine AllReadyH.cons (o := ⟨some 136, .buildSlice 53 1 #[(0, .tmp 135)], 53, "tape.go:205", #[⟨13, .data⟩], none⟩) rfl (fun K hK => ?_) AllReadyH.nil
                have SX : Sl 2 encS (w6.alloc (.cells #[.int .i64 i2, .int .i64 i3] 36)) (some ⟨w6.heap.size, 0, none⟩) 1 [(i2, i3)] := Sl.lit _ rfl rfl (fun _ => rfl) rfl
                go_simp
                have k8 := Ex.new w6 (.cells #[.int .i64 i2, .int .i64 i3] 36)
                replace OQ := OQ.nx k8
                replace own := own.nx k8
                replace kk := kk.nxb (k8.b b)
                replace T := T.nx k8
                clear k8
                refine hK.out _ _ (trivial) (fun hHeld => ?_)
                clear hK K
                try simp only [Act.put, List.setIfInBounds_toArray, List.set_cons_zero, List.set_cons_succ]
                refine wpAnyH_ready (rs := [15]) (by kernel_rfl) (by simp) ?_
                refine AllReadyH.cons (o := ⟨some 137, .call { callee := .builtin .append, args := #[.tmp 128, .tmp 136], argTypes := #[53, 53] }, 53, "tape.go:205", #[⟨6, .data⟩, ⟨14, .data⟩, ⟨12, .chain⟩], none⟩) rfl (fun K hK => ?_) AllReadyH.nil
                rw [if_pos (by rfl)]
                have z6 := kk.size
                refine wp_append_rda (enc := encS) _ (.tmp 128) (.tmp 136) 53 rfl w.heap.size 36 (.agg #[.int .i64 0, .int .i64 0]) 2 16 Tryd.underlying53 Tryd.infoLk rfl (by omega) (by omega) _ c.2 own rfl _ _ 1 1 [_] SX (fun h => by cases h) (fun _ => rfl) (by simp [encS, Value.oneCell']) rfl (by rw [← HN3.out]; omega) (by omega) z6 ?_
                intro v9 w9 own9 ch0 ch1 hat
                obtain ⟨a9, c9, rfl, _, _, _, _⟩ := own9.rd (fun _ => rfl)
                obtain ⟨pc, pf, OQ2⟩ := OwnN.put (p := 1) (fun _ => rfl) (by decide) OQ hqj (hd' := (a9, (c.2 ++ [(i2, i3)]).length, c9)) (c' := c.2 ++ [(i2, i3)]) own9 ch0 (hat.imp id (fun h x hx => by have h2 := h.symm.trans hx; cases h2; exact Nat.le_refl _))
                have hll : (c.2 ++ [(i2, i3)]).length = hn3 + 1 := by rw [HN3.out]; simp
                simp only [Hdr.val, hll] at OQ2
                have kk : Exb b w w9 := Chg.trans kk (ch1.mono (fun x hx => hx.1))
                have T := TP.chg T ch1 (fun x hx => by omega)
                clear own9 ch0 ch1 hat
                refine hK.out _ _ (trivial) (fun hHeld => ?_)
                clear hK K
                try simp only [Act.put, List.setIfInBounds_toArray, List.set_cons_zero, List.set_cons_succ]
                refine wpAnyH_take (i := 16) (oi := ⟨some 138, .indexAddr 31 (.tmp 122) (.tmp 123), 0, "tape.go:205", #[⟨0, .data⟩, ⟨1, .data⟩, ⟨0, .phase⟩, ⟨1, .phase⟩, ⟨2, .phase⟩, ⟨3, .phase⟩, ⟨4, .phase⟩, ⟨5, .phase⟩, ⟨6, .phase⟩, ⟨7, .phase⟩, ⟨8, .phase⟩, ⟨9, .phase⟩, ⟨10, .phase⟩, ⟨11, .phase⟩, ⟨12, .phase⟩, ⟨13, .phase⟩, ⟨14, .phase⟩, ⟨15, .phase⟩], none⟩) (v := ?_) rfl (by kernel_rfl) (by kernel_rfl) (by kernel_rfl) (fun _ _ _ h => h) (Or.inl ⟨by rfl, ?hyr4x16q244⟩) (by assumption) ?restr4x16q244
                case hyr4x16q244 => intro wq hSw; (go_simp); (try with_reducible rfl)
                try simp only [Act.put, List.setIfInBounds_toArray, List.set_cons_zero, List.set_cons_succ]
                refine wpAnyH_take (i := 17) (oi := ⟨some 139, .fieldAddr 55 (.tmp 138) 1, 0, "tape.go:205", #[⟨16, .data⟩, ⟨0, .phase⟩, ⟨1, .phase⟩, ⟨2, .phase⟩, ⟨3, .phase⟩, ⟨4, .phase⟩, ⟨5, .phase⟩, ⟨6, .phase⟩, ⟨7, .phase⟩, ⟨8, .phase⟩, ⟨9, .phase⟩, ⟨10, .phase⟩, ⟨11, .phase⟩, ⟨12, .phase⟩, ⟨13, .phase⟩, ⟨14, .phase⟩, ⟨15, .phase⟩], none⟩) (v := ?_) rfl (by kernel_rfl) (by kernel_rfl) (by kernel_rfl) (fun _ _ _ h => h) (Or.inl ⟨by rfl, ?hyr4x17q247⟩) (by assumption) ?restr4x17q247
                case hyr4x17q247 => intro wq hSw; (go_simp); (try with_reducible rfl)
                try simp only [Act.put, List.setIfInBounds_toArray, List.set_cons_zero, List.set_cons_succ]
                refine wpAnyH_ready (rs := [18]) (by kernel_rfl) (by simp) ?_
                refine AllReadyH.cons (o := ⟨none, .store 53 (.tmp 139) (.tmp 137), 0, "tape.go:205", #[⟨17, .data⟩, ⟨15, .data⟩, ⟨15, .chain⟩, ⟨0, .phase⟩, ⟨1, .phase⟩, ⟨2, .phase⟩, ⟨3, .phase⟩, ⟨4, .phase⟩, ⟨5, .phase⟩, ⟨6, .phase⟩, ⟨7, .phase⟩, ⟨8, .phase⟩, ⟨9, .phase⟩, ⟨10, .phase⟩, ⟨11, .phase⟩, ⟨12, .phase⟩, ⟨13, .phase⟩, ⟨14, .phase⟩, ⟨15, .phase⟩], none⟩) rfl (fun K hK => ?_) AllReadyH.nil
                go_simp
                clear pc pf OQ
                refine hK.out _ _ (trivial) (fun hHeld => ?_)
                clear hK K
                try simp only [Act.put, List.setIfInBounds_toArray, List.set_cons_zero, List.set_cons_succ]
                refine wpAnyH_done (by kernel_rfl) ?_ _
                have T : TK (w9.setCell ⟨g, j * 2 + 1, none⟩ (.slice a9 (hn3 + 1) c9)) b := TK.set T (p := ⟨g, j * 2 + 1, none⟩) _ (by show b < g; omega)
                have kk := kk.setNew (p := ⟨g, j * 2 + 1, none⟩) (.slice a9 (hn3 + 1) c9) hg
                have OQ := OQ2
                clear OQ2 own SX
                go_wp2_with fail
                exact ⟨⟨q - 1, _, _, by omega, by first | rfl | rw [hqm], OQ, lk_mono (lk_set (B2 := 17 + (ch - q) + 1) (lk_mono LO.out (Nat.le_refl _) (by omega)) j ⟨cok.out.1, by show (c.2 ++ [(i2, i3)]).length ≤ _; rw [hll]; omega, fun y hy => by rcases List.mem_append.1 hy with h1 | h1; exact cok.out.2.2 y h1; rw [List.mem_singleton.1 h1]; exact ⟨I2, I3⟩⟩) (by omega) (by omega), T, kk⟩, by simp [intOf]; omega⟩
              refine AllReadyH.cons (o := ⟨some 136, .buildSlice 53 1 #[(0, .tmp 135)], 53, "tape.go:205", #[⟨13, .data⟩], none⟩) rfl (fun K hK => ?_) AllReadyH.nil
              · have SX : Sl 2 encS (w6.alloc (.cells #[.int .i64 i2, .int .i64 i3] 36)) (some ⟨w6.heap.size, 0, none⟩) 1 [(i2, i3)] := Sl.lit _ rfl rfl (fun _ => rfl) rfl
                go_simp
                have k8 := Ex.new w6 (.cells #[.int .i64 i2, .int .i64 i3] 36)
                replace OQ := OQ.nx k8
                replace own := own.nx k8
                replace kk := kk.nxb (k8.b b)
                replace T := T.nx k8
                clear k8
                refine hK.out _ _ (trivial) (fun hHeld => ?_)
                clear hK K
                try simp only [Act.put, List.setIfInBounds_toArray, List.set_cons_zero, List.set_cons_succ]
                refine wpAnyH_ready (rs := [6]) (by kernel_rfl) (by simp) ?_
                refine AllReadyH.cons (o := ⟨some 128, .load 53 (.tmp 127), 53, "tape.go:205", #[⟨5, .data⟩], none⟩) rfl (fun K hK => ?_) AllReadyH.nil
                have cq := CE _ OQ
                go_simp
                clear cq
                refine hK.out _ _ (trivial) (fun hHeld => ?_)
                clear hK K
                try simp only [Act.put, List.setIfInBounds_toArray, List.set_cons_zero, List.set_cons_succ]
                refine wpAnyH_ready (rs := [15]) (by kernel_rfl) (by simp) ?_
                refine AllReadyH.cons (o := ⟨some 137, .call { callee := .builtin .append, args := #[.tmp 128, .tmp 136], argTypes := #[53, 53] }, 53, "tape.go:205", #[⟨6, .data⟩, ⟨14, .data⟩, ⟨12, .chain⟩], none⟩) rfl (fun K hK => ?_) AllReadyH.nil
                rw [if_pos (by rfl)]
                have z6 := kk.size
                refine wp_append_rda (enc := encS) _ (.tmp 128) (.tmp 136) 53 rfl w.heap.size 36 (.agg #[.int .i64 0, .int .i64 0]) 2 16 Tryd.underlying53 Tryd.infoLk rfl (by omega) (by omega) _ c.2 own rfl _ _ 1 1 [_] SX (fun h => by cases h) (fun _ => rfl) (by simp [encS, Value.oneCell']) rfl (by rw [← HN3.out]; omega) (by omega) z6 ?_
                intro v9 w9 own9 ch0 ch1 hat
                obtain ⟨a9, c9, rfl, _, _, _, _⟩ := own9.rd (fun _ => rfl)
                obtain ⟨pc, pf, OQ2⟩ := OwnN.put (p := 1) (fun _ => rfl) (by decide) OQ hqj (hd' := (a9, (c.2 ++ [(i2, i3)]).length, c9)) (c' := c.2 ++ [(i2, i3)]) own9 ch0 (hat.imp id (fun h x hx => by have h2 := h.symm.trans hx; cases h2; exact Nat.le_refl _))
                have hll : (c.2 ++ [(i2, i3)]).length = hn3 + 1 := by rw [HN3.out]; simp
                simp only [Hdr.val, hll] at OQ2
                have kk : Exb b w w9 := Chg.trans kk (ch1.mono (fun x hx => hx.1))
                have T := TP.chg T ch1 (fun x hx => by omega)
                clear own9 ch0 ch1 hat
                refine hK.out _ _ (trivial) (fun hHeld => ?_)
                clear hK K
                try simp only [Act.put, List.setIfInBounds_toArray, List.set_cons_zero, List.set_cons_succ]
                refine wpAnyH_take (i := 16) (oi := ⟨some 138, .indexAddr 31 (.tmp 122) (.tmp 123), 0, "tape.go:205", #[⟨0, .data⟩, ⟨1, .data⟩, ⟨0, .phase⟩, ⟨1, .phase⟩, ⟨2, .phase⟩, ⟨3, .phase⟩, ⟨4, .phase⟩, ⟨5, .phase⟩, ⟨6, .phase⟩, ⟨7, .phase⟩, ⟨8, .phase⟩, ⟨9, .phase⟩, ⟨10, .phase⟩, ⟨11, .phase⟩, ⟨12, .phase⟩, ⟨13, .phase⟩, ⟨14, .phase⟩, ⟨15, .phase⟩], none⟩) (v := ?_) rfl (by kernel_rfl) (by kernel_rfl) (by kernel_rfl) (fun _ _ _ h => h) (Or.inl ⟨by rfl, ?hyr4x16q295⟩) (by assumption) ?restr4x16q295
                case hyr4x16q295 => intro wq hSw; (go_simp); (try with_reducible rfl)
                try simp only [Act.put, List.setIfInBounds_toArray, List.set_cons_zero, List.set_cons_succ]
                refine wpAnyH_take (i := 17) (oi := ⟨some 139, .fieldAddr 55 (.tmp 138) 1, 0, "tape.go:205", #[⟨16, .data⟩, ⟨0, .phase⟩, ⟨1, .phase⟩, ⟨2, .phase⟩, ⟨3, .phase⟩, ⟨4, .phase⟩, ⟨5, .phase⟩, ⟨6, .phase⟩, ⟨7, .phase⟩, ⟨8, .phase⟩, ⟨9, .phase⟩, ⟨10, .phase⟩, ⟨11, .phase⟩, ⟨12, .phase⟩, ⟨13, .phase⟩, ⟨14, .phase⟩, ⟨15, .phase⟩], none⟩) (v := ?_) rfl (by kernel_rfl) (by kernel_rfl) (by kernel_rfl) (fun _ _ _ h => h) (Or.inl ⟨by rfl, ?hyr4x17q298⟩) (by assumption) ?restr4x17q298
                case hyr4x17q298 => intro wq hSw; (go_simp); (try with_reducible rfl)
                try simp only [Act.put, List.setIfInBounds_toArray, List.set_cons_zero, List.set_cons_succ]
                refine wpAnyH_ready (rs := [18]) (by kernel_rfl) (by simp) ?_
                refine AllReadyH.cons (o := ⟨none, .store 53 (.tmp 139) (.tmp 137), 0, "tape.go:205", #[⟨17, .data⟩, ⟨15, .data⟩, ⟨15, .chain⟩, ⟨0, .phase⟩, ⟨1, .phase⟩, ⟨2, .phase⟩, ⟨3, .phase⟩, ⟨4, .phase⟩, ⟨5, .phase⟩, ⟨6, .phase⟩, ⟨7, .phase⟩, ⟨8, .phase⟩, ⟨9, .phase⟩, ⟨10, .phase⟩, ⟨11, .phase⟩, ⟨12, .phase⟩, ⟨13, .phase⟩, ⟨14, .phase⟩, ⟨15, .phase⟩], none⟩) rfl (fun K hK => ?_) AllReadyH.nil
                go_simp
                clear pc pf OQ
                refine hK.out _ _ (trivial) (fun hHeld => ?_)
                clear hK K
                try simp only [Act.put, List.setIfInBounds_toArray, List.set_cons_zero, List.set_cons_succ]
                refine wpAnyH_done (by kernel_rfl) ?_ _
                have T : TK (w9.setCell ⟨g, j * 2 + 1, none⟩ (.slice a9 (hn3 + 1) c9)) b := TK.set T (p := ⟨g, j * 2 + 1, none⟩) _ (by show b < g; omega)
                have kk := kk.setNew (p := ⟨g, j * 2 + 1, none⟩) (.slice a9 (hn3 + 1) c9) hg
                have OQ := OQ2
                clear OQ2 own SX
                go_wp2_with fail
                exact ⟨⟨q - 1, _, _, by omega, by first | rfl | rw [hqm], OQ, lk_mono (lk_set (B2 := 17 + (ch - q) + 1) (lk_mono LO.out (Nat.le_refl _) (by omega)) j ⟨cok.out.1, by show (c.2 ++ [(i2, i3)]).length ≤ _; rw [hll]; omega, fun y hy => by rcases List.mem_append.1 hy with h1 | h1; exact cok.out.2.2 y h1; rw [List.mem_singleton.1 h1]; exact ⟨I2, I3⟩⟩) (by omega) (by omega), T, kk⟩, by simp [intOf]; omega⟩
        · have d0 : (r == 0) = false := by simpa using r00
          have d1 : (r == 1) = false := by simpa using r01
          have d2 : (r == 2) = false := by simpa using r02
          have d3 : (r == 3) = false := by simpa using r03
          clear r00 r01 r02 r03 r0 r1
          obtain ⟨a6, c6, e6, r6, hc6, _, some6⟩ := own.rd (fun _ => rfl)
          obtain ⟨rfl, hn3e, rfl⟩ : ha = a6 ∧ hn3 = c.2.length ∧ hcp = c6 := by simpa [Hdr.val] using e6
          have HN3 := Lib.hid hn3e
          have hcl : hn3 ≤ 17 + (ch - q) := by rw [hn3e]; exact cok.out.2.1
          rw [← hn3e] at hc6
          have jw3 : IntKind.i64.wrap ((hn3 : Int) + 1) = (hn3 : Int) + 1 := IntWalk.i64_in _ (by omega)
          clear hn3e
          have SOME6 := Lib.hid some6
          clear e6 r6 some6 jw3
          have CE : ∀ cur : World, OwnLk w.heap.size cur (.slice (some ⟨g, 0, none⟩) L.length cap3) qs L → cur.cell? ⟨g, j * 2 + 1, none⟩ = some (.slice ha hn3 hcp) := fun cur h => by
            have := (OwnW.set1 (sz := 2) (enc := encP encI) (c := 1) (fun _ => rfl) h.1 hqj (by omega)).1
            exact this
          have cq := CE _ OQ
          by_cases hn0 : hn3 = 0
          · have dn : ¬ (0 : Int) < (hn3 : Int) := by omega
            have HN0 := Lib.hid hn0
            clear own hqj hn0
            go_wp2_with fail
            exact ⟨⟨q - 1, qs, L, by omega, by first | rfl | rw [hqm], OQ, lk_mono LO.out (by omega) (by omega), T, kk⟩, by simp [intOf]; omega⟩
          · have dn : (0 : Int) < (hn3 : Int) := by omega
            obtain ⟨gi, rfl, hgi⟩ := SOME6.out (fun h0 => hn0 (by rw [HN3.out, h0]; rfl))
            clear hn0
            go_wp2_with fail
            clear cq
            replace OQ := OQ.nx (Ex.refl w4).drew
            replace own := own.nx (Ex.refl w4).drew
            replace T : TK w4.drew b := T
            replace kk := kk.drew
            refine wp_region_held_drew (S := fun _ => True) (by kernel_rfl) (trivial) (fun hHeld => ?_)
            refine wpAnyH_take (i := 0) (oi := ⟨some 48, .move (.tmp 9), 31, "tape.go:208", #[], none⟩) (v := ?_) rfl (by kernel_rfl) (by kernel_rfl) (by kernel_rfl) (fun _ _ _ h => h) (Or.inl ⟨by rfl, ?hyr5x0q1⟩) (by assumption) ?restr5x0q1
            case hyr5x0q1 => intro wq hSw; (go_simp); (try with_reducible rfl)
            try simp only [Act.put, List.setIfInBounds_toArray, List.set_cons_zero, List.set_cons_succ]
            refine wpAnyH_take (i := 1) (oi := ⟨some 49, .move (.tmp 12), 3, "tape.go:208", #[], none⟩) (v := ?_) rfl (by kernel_rfl) (by kernel_rfl) (by kernel_rfl) (fun _ _ _ h => h) (Or.inl ⟨by rfl, ?hyr5x1q4⟩) (by assumption) ?restr5x1q4
            case hyr5x1q4 => intro wq hSw; (go_simp); (try with_reducible rfl)
            try simp only [Act.put, List.setIfInBounds_toArray, List.set_cons_zero, List.set_cons_succ]
            refine wpAnyH_take (i := 2) (oi := ⟨some 50, .indexAddr 31 (.tmp 48) (.tmp 49), 0, "tape.go:208", #[⟨0, .data⟩, ⟨1, .data⟩], none⟩) (v := ?_) rfl (by kernel_rfl) (by kernel_rfl) (by kernel_rfl) (fun _ _ _ h => h) (Or.inl ⟨by rfl, ?hyr5x2q7⟩) (by assumption) ?restr5x2q7
            case hyr5x2q7 => intro wq hSw; (go_simp); (try with_reducible rfl)
            try simp only [Act.put, List.setIfInBounds_toArray, List.set_cons_zero, List.set_cons_succ]
            refine wpAnyH_take (i := 3) (oi := ⟨some 51, .fieldAddr 55 (.tmp 50) 1, 0, "tape.go:208", #[⟨2, .data⟩], none⟩) (v := ?_) rfl (by kernel_rfl) (by kernel_rfl) (by kernel_rfl) (fun _ _ _ h => h) (Or.inl ⟨by rfl, ?hyr5x3q10⟩) (by assumption) ?restr5x3q10
            case hyr5x3q10 => intro wq hSw; (go_simp); (try with_reducible rfl)
            try simp only [Act.put, List.setIfInBounds_toArray, List.set_cons_zero, List.set_cons_succ]
            refine wpAnyH_take (i := 5) (oi := ⟨some 53, .move (.tmp 0), 24, "tape.go:208", #[], none⟩) (v := ?_) rfl (by kernel_rfl) (by kernel_rfl) (by kernel_rfl) (fun _ _ _ h => h) (Or.inl ⟨by rfl, ?hyr5x5q13⟩) (by assumption) ?restr5x5q13
            case hyr5x5q13 => intro wq hSw; (go_simp); (try with_reducible rfl)
            try simp only [Act.put, List.setIfInBounds_toArray, List.set_cons_zero, List.set_cons_succ]
            refine wpAnyH_take (i := 6) (oi := ⟨some 54, .move (.tmp 13), 3, "tape.go:208", #[], none⟩) (v := ?_) rfl (by kernel_rfl) (by kernel_rfl) (by kernel_rfl) (fun _ _ _ h => h) (Or.inl ⟨by rfl, ?hyr5x6q16⟩) (by assumption) ?restr5x6q16
            case hyr5x6q16 => intro wq hSw; (go_simp); (try with_reducible rfl)
            try simp only [Act.put, List.setIfInBounds_toArray, List.set_cons_zero, List.set_cons_succ]
            refine wpAnyH_ready (rs := [4, 7]) (by kernel_rfl) (by simp) ?_
            refine AllReadyH.cons (o := ⟨some 52, .load 53 (.tmp 51), 53, "tape.go:208", #[⟨3, .data⟩], none⟩) rfl (fun K hK => ?_) ?_
            · have cq := CE _ OQ
              go_simp
              clear cq
              refine hK.out _ _ (trivial) (fun hHeld => ?_)
              clear hK K
              try simp only [Act.put, List.setIfInBounds_toArray, List.set_cons_zero, List.set_cons_succ]
              refine wpAnyH_ready (rs := [7]) (by kernel_rfl) (by simp) ?_
              refine AllReadyH.cons (o := ⟨some 55, .call { callee := .value (.func 13), args := #[.tmp 53, .tmp 54], argTypes := #[24, 3] }, 3, "tape.go:208", #[⟨5, .data⟩, ⟨6, .data⟩], none⟩) rfl (fun K hK => ?_) AllReadyH.nil
              go_simp
              ((with_reducible refine (next_t (hn3 : Int) _ T (by omega) (by omega)).mono ?_))
              clear T
              rintro e w5 ⟨m, rfl, m0, m1, T, k2⟩
              obtain ⟨m, rfl⟩ := Int.eq_ofNat_of_zero_le m0
              replace OQ := OQ.nxb hbw k2
              replace own := own.nxb hbw k2
              replace kk := kk.nxb k2
              clear k2
              have hmc : (m : Int) < (hn3 : Int) := by omega
              refine hK.out _ _ (trivial) (fun hHeld => ?_)
              clear hK K
              try simp only [Act.put, List.setIfInBounds_toArray, List.set_cons_zero, List.set_cons_succ]
              refine wpAnyH_take (i := 8) (oi := ⟨some 56, .indexAddr 53 (.tmp 52) (.tmp 55), 0, "tape.go:208", #[⟨4, .data⟩, ⟨7, .data⟩], none⟩) (v := ?_) rfl (by kernel_rfl) (by kernel_rfl) (by kernel_rfl) (fun _ _ _ h => h) (Or.inl ⟨by rfl, ?hyr5x8q42⟩) (by assumption) ?restr5x8q42
              case hyr5x8q42 => intro wq hSw; (go_simp); (try with_reducible rfl)
              try simp only [Act.put, List.setIfInBounds_toArray, List.set_cons_zero, List.set_cons_succ]
              refine wpAnyH_take (i := 9) (oi := ⟨some 14, .assign (.tmp 56), 82, "tape.go:208", #[⟨8, .data⟩, ⟨7, .chain⟩, ⟨0, .phase⟩, ⟨1, .phase⟩, ⟨2, .phase⟩, ⟨3, .phase⟩, ⟨4, .phase⟩, ⟨5, .phase⟩, ⟨6, .phase⟩, ⟨7, .phase⟩, ⟨8, .phase⟩], none⟩) (v := ?_) rfl (by kernel_rfl) (by kernel_rfl) (by kernel_rfl) (fun _ _ _ h => h) (Or.inl ⟨by rfl, ?hyr5x9q45⟩) (by assumption) ?restr5x9q45
              case hyr5x9q45 => intro wq hSw; (go_simp); (try with_reducible rfl)
              try simp only [Act.put, List.setIfInBounds_toArray, List.set_cons_zero, List.set_cons_succ]
              refine wpAnyH_done (by kernel_rfl) ?_ _
              have hml : m < c.2.length := by rw [← HN3.out]; omega
              obtain ⟨yy, hyy⟩ : ∃ yy, c.2[m]? = some yy := ⟨c.2[m], by simp⟩
              have HYY := Lib.hid hyy
              have yok := Lib.hid (cok.out.2.2 yy (List.mem_of_getElem? hyy))
              clear hyy
              go_wp2_with fail
              refine (bool_t 2 _ T (by omega) (by omega)).mono ?_
              clear T
              rintro e w6 ⟨rr, rfl, T, k2⟩
              replace OQ := OQ.nxb hbw k2
              replace own := own.nxb hbw k2
              replace kk := kk.nxb k2
              clear k2
              cases rr with
              | true =>
                go_wp2_with fail
                refine (id_t _ _ _ _ _ T (HS.out.nxb kk) (by omega) HI.out).mono ?_
                clear T
                rintro e w7 ⟨i2, rfl, I2, T, k2⟩
                replace OQ := OQ.nxb hbw k2
                replace own := own.nxb hbw k2
                replace kk := kk.nxb k2
                obtain ⟨pc, pf, OS⟩ := own_set1 (sz := 2) (enc := encS) (c := 0) (fun _ => rfl) own HYY.out (by omega)
                have OS := Lib.hid (OS (i2, yy.2) (.int .i64 i2) rfl)
                have pc : w7.cell? ⟨gi, m * 2, none⟩ = some (.int .i64 yy.1) := pc
                have pf : w7.frozen? ⟨gi, m * 2, none⟩ = false := pf
                clear k2
                go_wp2_with fail
                have OQ := OwnN.keep (p := 1) (by decide) OQ hqj (c' := c.2.set m (i2, yy.2)) OS.out ((Chg.refl _ w7).setCell _ (fun x hx he => hx.2 (by rw [he]; rfl)))
                have T : TK _ b := TK.set T (p := ⟨gi, m * 2, none⟩) (.int .i64 i2) (by show b < gi; omega)
                have kk := kk.setNew (p := ⟨gi, m * 2, none⟩) (.int .i64 i2) hgi
                exact ⟨⟨q - 1, _, _, by omega, by first | rfl | rw [hqm], OQ, lk_mono (lk_set LO.out j ⟨cok.out.1, by show (c.2.set m (i2, yy.2)).length ≤ _; rw [List.length_set, ← HN3.out]; omega, fun y hy => by rcases List.mem_or_eq_of_mem_set hy with h1 | h1; exact cok.out.2.2 y h1; rw [h1]; exact ⟨I2, yok.out.2⟩⟩) (by omega) (by omega), T, kk⟩, by simp [intOf]; omega⟩
              | false =>
                go_wp2_with fail
                refine (id_t _ _ _ _ _ T (HS.out.nxb kk) (by omega) HI.out).mono ?_
                clear T
                rintro e w7 ⟨i2, rfl, I2, T, k2⟩
                replace OQ := OQ.nxb hbw k2
                replace own := own.nxb hbw k2
                replace kk := kk.nxb k2
                obtain ⟨pc, pf, OS⟩ := own_set1 (sz := 2) (enc := encS) (c := 1) (fun _ => rfl) own HYY.out (by omega)
                have OS := Lib.hid (OS (yy.1, i2) (.int .i64 i2) rfl)
                have pc : w7.cell? ⟨gi, m * 2 + 1, none⟩ = some (.int .i64 yy.2) := pc
                have pf : w7.frozen? ⟨gi, m * 2 + 1, none⟩ = false := pf
                clear k2
                go_wp2_with fail
                have OQ := OwnN.keep (p := 1) (by decide) OQ hqj (c' := c.2.set m (yy.1, i2)) OS.out ((Chg.refl _ w7).setCell _ (fun x hx he => hx.2 (by rw [he]; rfl)))
                have T : TK _ b := TK.set T (p := ⟨gi, m * 2 + 1, none⟩) (.int .i64 i2) (by show b < gi; omega)
                have kk := kk.setNew (p := ⟨gi, m * 2 + 1, none⟩) (.int .i64 i2) hgi
                exact ⟨⟨q - 1, _, _, by omega, by first | rfl | rw [hqm], OQ, lk_mono (lk_set LO.out j ⟨cok.out.1, by show (c.2.set m (yy.1, i2)).length ≤ _; rw [List.length_set, ← HN3.out]; omega, fun y hy => by rcases List.mem_or_eq_of_mem_set hy with h1 | h1; exact cok.out.2.2 y h1; rw [h1]; exact ⟨yok.out.1, I2⟩⟩) (by omega) (by omega), T, kk⟩, by simp [intOf]; omega⟩
            refine AllReadyH.cons (o := ⟨some 55, .call { callee := .value (.func 13), args := #[.tmp 53, .tmp 54], argTypes := #[24, 3] }, 3, "tape.go:208", #[⟨5, .data⟩, ⟨6, .data⟩], none⟩) rfl (fun K hK => ?_) AllReadyH.nil
            · go_simp
              ((with_reducible refine (next_t (hn3 : Int) _ T (by omega) (by omega)).mono ?_))
              clear T
              rintro e w5 ⟨m, rfl, m0, m1, T, k2⟩
              obtain ⟨m, rfl⟩ := Int.eq_ofNat_of_zero_le m0
              replace OQ := OQ.nxb hbw k2
              replace own := own.nxb hbw k2
              replace kk := kk.nxb k2
              clear k2
              have hmc : (m : Int) < (hn3 : Int) := by omega
              refine hK.out _ _ (trivial) (fun hHeld => ?_)
              clear hK K
              try simp only [Act.put, List.setIfInBounds_toArray, List.set_cons_zero, List.set_cons_succ]
              refine wpAnyH_ready (rs := [4]) (by kernel_rfl) (by simp) ?_
              refine AllReadyH.cons (o := ⟨some 52, .load 53 (.tmp 51), 53, "tape.go:208", #[⟨3, .data⟩], none⟩) rfl (fun K hK => ?_) AllReadyH.nil
              have cq := CE _ OQ
              go_simp
              clear cq
              refine hK.out _ _ (trivial) (fun hHeld => ?_)
              clear hK K
              try simp only [Act.put, List.setIfInBounds_toArray, List.set_cons_zero, List.set_cons_succ]
              refine wpAnyH_take (i := 8) (oi := ⟨some 56, .indexAddr 53 (.tmp 52) (.tmp 55), 0, "tape.go:208", #[⟨4, .data⟩, ⟨7, .data⟩], none⟩) (v := ?_) rfl (by kernel_rfl) (by kernel_rfl) (by kernel_rfl) (fun _ _ _ h => h) (Or.inl ⟨by rfl, ?hyr5x8q72⟩) (by assumption) ?restr5x8q72
              case hyr5x8q72 => intro wq hSw; (go_simp); (try with_reducible rfl)
              try simp only [Act.put, List.setIfInBounds_toArray, List.set_cons_zero, List.set_cons_succ]
              refine wpAnyH_take (i := 9) (oi := ⟨some 14, .assign (.tmp 56), 82, "tape.go:208", #[⟨8, .data⟩, ⟨7, .chain⟩, ⟨0, .phase⟩, ⟨1, .phase⟩, ⟨2, .phase⟩, ⟨3, .phase⟩, ⟨4, .phase⟩, ⟨5, .phase⟩, ⟨6, .phase⟩, ⟨7, .phase⟩, ⟨8, .phase⟩], none⟩) (v := ?_) rfl (by kernel_rfl) (by kernel_rfl) (by kernel_rfl) (fun _ _ _ h => h) (Or.inl ⟨by rfl, ?hyr5x9q75⟩) (by assumption) ?restr5x9q75
              case hyr5x9q75 => intro wq hSw; (go_simp); (try with_reducible rfl)
              try simp only [Act.put, List.setIfInBounds_toArray, List.set_cons_zero, List.set_cons_succ]
              refine wpAnyH_done (by kernel_rfl) ?_ _
              have hml : m < c.2.length := by rw [← HN3.out]; omega
              obtain ⟨yy, hyy⟩ : ∃ yy, c.2[m]? = some yy := ⟨c.2[m], by simp⟩
              have HYY := Lib.hid hyy
              have yok := Lib.hid (cok.out.2.2 yy (List.mem_of_getElem? hyy))
              clear hyy
              go_wp2_with fail
              refine (bool_t 2 _ T (by omega) (by omega)).mono ?_
              clear T
              rintro e w6 ⟨rr, rfl, T, k2⟩
              replace OQ := OQ.nxb hbw k2
              replace own := own.nxb hbw k2
              replace kk := kk.nxb k2
              clear k2
              cases rr with
              | true =>
                go_wp2_with fail
                refine (id_t _ _ _ _ _ T (HS.out.nxb kk) (by omega) HI.out).mono ?_
                clear T
                rintro e w7 ⟨i2, rfl, I2, T, k2⟩
                replace OQ := OQ.nxb hbw k2
                replace own := own.nxb hbw k2
                replace kk := kk.nxb k2
                obtain ⟨pc, pf, OS⟩ := own_set1 (sz := 2) (enc := encS) (c := 0) (fun _ => rfl) own HYY.out (by omega)
                have OS := Lib.hid (OS (i2, yy.2) (.int .i64 i2) rfl)
                have pc : w7.cell? ⟨gi, m * 2, none⟩ = some (.int .i64 yy.1) := pc
                have pf : w7.frozen? ⟨gi, m * 2, none⟩ = false := pf
                clear k2
                go_wp2_with fail
                have OQ := OwnN.keep (p := 1) (by decide) OQ hqj (c' := c.2.set m (i2, yy.2)) OS.out ((Chg.refl _ w7).setCell _ (fun x hx he => hx.2 (by rw [he]; rfl)))
                have T : TK _ b := TK.set T (p := ⟨gi, m * 2, none⟩) (.int .i64 i2) (by show b < gi; omega)
                have kk := kk.setNew (p := ⟨gi, m * 2, none⟩) (.int .i64 i2) hgi
                exact ⟨⟨q - 1, _, _, by omega, by first | rfl | rw [hqm], OQ, lk_mono (lk_set LO.out j ⟨cok.out.1, by show (c.2.set m (i2, yy.2)).length ≤ _; rw [List.length_set, ← HN3.out]; omega, fun y hy => by rcases List.mem_or_eq_of_mem_set hy with h1 | h1; exact cok.out.2.2 y h1; rw [h1]; exact ⟨I2, yok.out.2⟩⟩) (by omega) (by omega), T, kk⟩, by simp [intOf]; omega⟩
              | false =>
                go_wp2_with fail
                refine (id_t _ _ _ _ _ T (HS.out.nxb kk) (by omega) HI.out).mono ?_
                clear T
                rintro e w7 ⟨i2, rfl, I2, T, k2⟩
                replace OQ := OQ.nxb hbw k2
                replace own := own.nxb hbw k2
                replace kk := kk.nxb k2
                obtain ⟨pc, pf, OS⟩ := own_set1 (sz := 2) (enc := encS) (c := 1) (fun _ => rfl) own HYY.out (by omega)
                have OS := Lib.hid (OS (yy.1, i2) (.int .i64 i2) rfl)
                have pc : w7.cell? ⟨gi, m * 2 + 1, none⟩ = some (.int .i64 yy.2) := pc
                have pf : w7.frozen? ⟨gi, m * 2 + 1, none⟩ = false := pf
                clear k2
                go_wp2_with fail
                have OQ := OwnN.keep (p := 1) (by decide) OQ hqj (c' := c.2.set m (yy.1, i2)) OS.out ((Chg.refl _ w7).setCell _ (fun x hx he => hx.2 (by rw [he]; rfl)))
                have T : TK _ b := TK.set T (p := ⟨gi, m * 2 + 1, none⟩) (.int .i64 i2) (by show b < gi; omega)
                have kk := kk.setNew (p := ⟨gi, m * 2 + 1, none⟩) (.int .i64 i2) hgi
                exact ⟨⟨q - 1, _, _, by omega, by first | rfl | rw [hqm], OQ, lk_mono (lk_set LO.out j ⟨cok.out.1, by show (c.2.set m (yy.1, i2)).length ≤ _; rw [List.length_set, ← HN3.out]; omega, fun y hy => by rcases List.mem_or_eq_of_mem_set hy with h1 | h1; exact cok.out.2.2 y h1; rw [h1]; exact ⟨yok.out.1, I2⟩⟩) (by omega) (by omega), T, kk⟩, by simp [intOf]; omega⟩
    · have OQ := Lib.hid OQ
      clear NL3 some3
      go_wp2_with fail
      go_ret
      exact ⟨_, qs, L, rfl, OQ.out, lk_mono LO.out (by omega) (by omega), T, kk⟩
end Go.Proofs.YtihpaonhonhfoaaDoor

/- The walk over IdealOrderless. -/
namespace Go.Proofs.YtihpaonhonhfoaaDoor
open Go.RowKit

/-- the first k rows cut -/
def cutK (C : List Lkd) (m k : Nat) : List Lkd := ((C.take k).map fun c => (c.1, c.2.take m)) ++ C.drop k
theorem cutK_len (C : List Lkd) (m k : Nat) : (cutK C m k).length = C.length := by unfold cutK; simp; omega
theorem cutK_at {C : List Lkd} {m k : Nat} (hk : k < C.length) : (cutK C m k)[k]? = C[k]? := by
  unfold cutK
  rw [List.getElem?_append_right (by simp; omega)]
  simp
  congr 1
  omega
theorem cutK_set {C : List Lkd} {m k : Nat} {c : Lkd} (hc : C[k]? = some c) : (cutK C m k).set k (c.1, c.2.take m) = cutK C m (k + 1) := by
  have hk := (List.getElem?_eq_some_iff.1 hc).1
  unfold cutK
  rw [List.set_append_right _ _ (by simp; omega)]
  have h1 : k - (List.map (fun c => (c.1, c.2.take m)) (C.take k)).length = 0 := by simp; omega
  rw [h1, List.drop_eq_getElem_cons hk, List.set_cons_zero, List.take_add_one, hc]
  simp
def OrRel (C : List Lkd) (m base : Nat) (v : Value) (w : World) (i : Value) (wr : World) : Prop :=
  ∃ (k : Nat) (qs : List (Int × Hdr)), k ≤ C.length ∧ i = .int .i64 k ∧ OwnLk base wr v qs (cutK C m k) ∧ Ex w wr

set_option maxRecDepth 100000 in
set_option maxHeartbeats 8000000 in
theorem idealorderless_walk (a1 : Option Addr) (n1 c1 : Nat) (l1 : List Int) (lev : Int) (w : World) (h1 : Sl 1 encI w a1 n1 l1) (hc1 : n1 ≤ c1) (hm1 : c1 ≤ maxLen)
    (hT : TabG w) (hL : LetG w) :
    Calls Tryd.prog 6 #[.slice a1 n1 c1, .int .i64 lev] w fun e w' => e = .returned (.bool true) ∧ Ex w w' := by
  go_enter Tryd.func6, Tryd.ntmps6
  go_wp2_with fail
  refine (new_t _ _ _ l1 _ h1 hc1 hm1).mono ?_
  rintro e w1 ⟨rfl, T, kk, z1⟩
  obtain ⟨b, hb⟩ : ∃ b, b = w.heap.size := ⟨_, rfl⟩
  rw [← hb] at T ⊢
  have hgt : ¬ 1 = b := by have := hT.lt; omega
  have hgl : ¬ 0 = b := by have := hL.lt; omega
  have T1 := hT.nx kk
  have L1 := hL.nx kk
  have q : Exl b w w1 := ⟨kk, by omega⟩
  clear h1 hT hL kk hb z1
  go_wp2_with fail
  refine (some_n 8 _ T L1 hgl (by omega) (by omega)).mono ?_
  rintro e w2 ⟨v1, L, rfl, R, hL1⟩
  obtain ⟨aX, cX, rfl, SX, hcX, hmX, _⟩ := R.own.slf (fun _ => rfl)
  have hb2 := T.lt
  have SX := SX.slb hb2
  have RL := R.len
  have RW := Lib.hid (fun x hx => Nat.lt_trans (R.word x hx) (show 65536 < 4294967296 by omega))
  have QL := q.nxb R.k
  have T2 := T1.nxb hgt R.k
  have RC := Lib.hid R.ok
  have T := R.tape
  clear R L1 q T1 hb2
  go_wp2_with fail
  refine (mod_any lev (L.length : Int) _ (by omega) (by omega)).mono ?_
  rintro e w3 ⟨rfl, rfl⟩
  obtain ⟨m, hm⟩ : ∃ m : Nat, lev % (L.length : Int) = (m : Int) := ⟨(lev % (L.length : Int)).toNat, by have := Int.emod_nonneg lev (show (L.length : Int) ≠ 0 by omega); omega⟩
  have hm6 : m < L.length := by have := Int.emod_lt_of_pos lev (show (0 : Int) < (L.length : Int) by omega); omega
  rw [hm]
  clear hm
  go_wp2_with fail
  refine (next_t 4 _ T (by omega) (by omega)).mono ?_
  clear T
  rintro e w4 ⟨r, rfl, r0, r1, _, kk⟩
  obtain ⟨h, rfl⟩ := Int.eq_ofNat_of_zero_le r0
  have hh : h < 4 := by omega
  replace QL := QL.nxb kk
  have SX := (SX.nxb kk).sl
  replace T2 := T2.nxb hgt kk
  clear kk r0 r1
  obtain ⟨A0, A1, _⟩ := build_ok0 RC.out (h := h) (by omega)
  obtain ⟨C0, C1, C2⟩ := build_ok0 RC.out (h := h + 1) (by omega)
  rw [show ((h + 1 : Nat) : Int) = (h : Int) + 1 by omega] at C0 C1 C2
  have CUT := Lib.hid (build_cut RC.out (h := h) (by omega))
  have BS := Lib.hid (buildN_small L (h : Int) (by omega)).2
  obtain ⟨x1, o1, _, rfl, _, _, _⟩ := SX.at (j := 0) (by omega)
  have PERM : Hid ((L.drop m ++ L.take m).Perm L) := Lib.hid (by
    have := (List.perm_append_comm (l₁ := L.drop m) (l₂ := L.take m))
    rwa [List.take_append_drop] at this)
  go_wp2_with fail
  (with_reducible refine (build_p _ _ _ _ _ _ SX (by omega) hcX hmX RW.out T2).mono ?_)
  rintro e w5 ⟨v, qs, rfl, own, kk⟩
  obtain ⟨aA, cA, rfl, LA, _, _, _, _⟩ := OwnN.nl (encA := encI) (encB := encS) (s1 := 2) (s2 := 2) (fun _ => rfl) (fun _ => rfl) own
  rw [A0]
  rw [A1] at LA ⊢
  replace QL := QL.nx kk
  replace SX := SX.nx kk
  replace T2 := T2.nx kk
  clear kk own qs
  obtain ⟨wz, rfl⟩ : ∃ wz : World, wz = w5 := ⟨_, rfl⟩
  have SD := Lib.hid (fun (cur : World) (k : Ex wz cur) => (SX.nx k).drop (m := m) (by omega))
  have ST := Lib.hid (fun (cur : World) (k : Ex wz cur) => (SX.nx k).take (m := m) (by omega))
  have TZ := Lib.hid (fun (cur : World) (k : Ex wz cur) => T2.nx k)
  have OWN0 := Lib.hid (fun (cur : World) (k : Ex wz cur) => (OwnL.lit (enc := encN) (sz := 3) (e := 48) (base := wz.heap.size) (w := cur) ([] : List Nd) (fun _ => rfl) k.size (Nat.zero_le _) (cs := #[]) rfl))
  have LA := Lib.hid LA
  have SX := Lib.hid SX
  have QL := Lib.hid QL
  have w1 : (m : Int) ≤ (cX : Int) := by omega
  have w2 : (m : Int) ≤ (L.length : Int) := by omega
  have w3 : ¬ cX = m := by omega
  clear T2
  go_wp2_with fail
  refine wp_region_held_drew (S := Ex wz) (by kernel_rfl) ((Ex.refl wz).drew) (fun hHeld => ?_)
  refine wpAnyH_take (i := 1) (oi := ⟨some 34, .move (.tmp 6), 23, "law.go:119", #[], none⟩) (v := ?_) rfl (by kernel_rfl) (by kernel_rfl) (by kernel_rfl) (fun _ _ _ h => h) (Or.inl ⟨by rfl, ?hyr1x1q1⟩) (by assumption) ?restr1x1q1
  case hyr1x1q1 => intro wq hSw; (go_simp); (try with_reducible rfl)
  try simp only [Act.put, List.setIfInBounds_toArray, List.set_cons_zero, List.set_cons_succ]
  refine wpAnyH_take (i := 2) (oi := ⟨some 35, .move (.tmp 7), 3, "law.go:119", #[], none⟩) (v := ?_) rfl (by kernel_rfl) (by kernel_rfl) (by kernel_rfl) (fun _ _ _ h => h) (Or.inl ⟨by rfl, ?hyr1x2q4⟩) (by assumption) ?restr1x2q4
  case hyr1x2q4 => intro wq hSw; (go_simp); (try with_reducible rfl)
  try simp only [Act.put, List.setIfInBounds_toArray, List.set_cons_zero, List.set_cons_succ]
  refine wpAnyH_take (i := 3) (oi := ⟨some 36, .slice 23 (.tmp 34) (some (.tmp 35)) none none, 23, "law.go:119", #[⟨1, .data⟩, ⟨2, .data⟩], none⟩) (v := ?_) rfl (by kernel_rfl) (by kernel_rfl) (by kernel_rfl) (fun _ _ _ h => h) (Or.inl ⟨by rfl, ?hyr1x3q7⟩) (by assumption) ?restr1x3q7
  case hyr1x3q7 => intro wq hSw; (go_simp); (try with_reducible rfl)
  try simp only [Act.put, List.setIfInBounds_toArray, List.set_cons_zero, List.set_cons_succ]
  refine wpAnyH_take (i := 5) (oi := ⟨some 38, .move (.tmp 6), 23, "law.go:119", #[], none⟩) (v := ?_) rfl (by kernel_rfl) (by kernel_rfl) (by kernel_rfl) (fun _ _ _ h => h) (Or.inl ⟨by rfl, ?hyr1x5q10⟩) (by assumption) ?restr1x5q10
  case hyr1x5q10 => intro wq hSw; (go_simp); (try with_reducible rfl)
  try simp only [Act.put, List.setIfInBounds_toArray, List.set_cons_zero, List.set_cons_succ]
  refine wpAnyH_take (i := 6) (oi := ⟨some 39, .move (.tmp 7), 3, "law.go:119", #[], none⟩) (v := ?_) rfl (by kernel_rfl) (by kernel_rfl) (by kernel_rfl) (fun _ _ _ h => h) (Or.inl ⟨by rfl, ?hyr1x6q13⟩) (by assumption) ?restr1x6q13
  case hyr1x6q13 => intro wq hSw; (go_simp); (try with_reducible rfl)
  try simp only [Act.put, List.setIfInBounds_toArray, List.set_cons_zero, List.set_cons_succ]
  refine wpAnyH_take (i := 7) (oi := ⟨some 40, .slice 23 (.tmp 38) none (some (.tmp 39)) none, 23, "law.go:119", #[⟨5, .data⟩, ⟨6, .data⟩], none⟩) (v := ?_) rfl (by kernel_rfl) (by kernel_rfl) (by kernel_rfl) (fun _ _ _ h => h) (Or.inl ⟨by rfl, ?hyr1x7q16⟩) (by assumption) ?restr1x7q16
  case hyr1x7q16 => intro wq hSw; (go_simp); (try with_reducible rfl)
  try simp only [Act.put, List.setIfInBounds_toArray, List.set_cons_zero, List.set_cons_succ]
  refine wpAnyH_take (i := 9) (oi := ⟨some 42, .move (.tmp 8), 3, "law.go:119", #[], none⟩) (v := ?_) rfl (by kernel_rfl) (by kernel_rfl) (by kernel_rfl) (fun _ _ _ h => h) (Or.inl ⟨by rfl, ?hyr1x9q19⟩) (by assumption) ?restr1x9q19
  case hyr1x9q19 => intro wq hSw; (go_simp); (try with_reducible rfl)
  try simp only [Act.put, List.setIfInBounds_toArray, List.set_cons_zero, List.set_cons_succ]
  refine wpAnyH_ready (rs := [0]) (by kernel_rfl) (by simp) ?_
  refine AllReadyH.cons (o := ⟨some 33, .buildSlice 23 0 #[], 23, "law.go:119", #[], none⟩) rfl (fun K hK => ?_) AllReadyH.nil
  go_simp
  have own6 := OWN0.out _ hHeld
  have j6 := hHeld.alloc (.cells #[] 48)
  refine hK.out _ _ (j6) (fun hHeld => ?_)
  clear hK K
  try simp only [Act.put, List.setIfInBounds_toArray, List.set_cons_zero, List.set_cons_succ]
  refine wpAnyH_ready (rs := [4]) (by kernel_rfl) (by simp) ?_
  refine AllReadyH.cons (o := ⟨some 37, .call { callee := .builtin .append, args := #[.tmp 33, .tmp 36], argTypes := #[23, 23] }, 23, "law.go:119", #[⟨0, .data⟩, ⟨3, .data⟩], none⟩) rfl (fun K hK => ?_) AllReadyH.nil
  rw [if_pos (by rfl)]
  have s0 := SD.out _ hHeld
  have z0 := Ex.size hHeld
  refine wp_append_rd (enc := encN) _ (.tmp 33) (.tmp 36) 23 rfl wz.heap.size 48 (.agg #[.int .i64 0, .string ByteArray.empty, .int .u32 0]) 3 32 Tryd.underlying23 Tryd.infoN rfl (by omega) (by omega) _ [] own6 rfl _ _ _ _ (L.drop m) s0 (fun h => by cases h) (fun _ => rfl) (by simp [encN, Value.oneCell']) rfl (by simp) (by omega) z0 ?_
  intro v7 w7 own7 ch0 ch1
  have j7 : Ex wz w7 := Chg.trans hHeld ch1
  rw [List.nil_append] at own7
  clear ch0 ch1 s0 z0 own6
  refine hK.out _ _ (j7) (fun hHeld => ?_)
  clear hK K
  try simp only [Act.put, List.setIfInBounds_toArray, List.set_cons_zero, List.set_cons_succ]
  refine wpAnyH_ready (rs := [8]) (by kernel_rfl) (by simp) ?_
  refine AllReadyH.cons (o := ⟨some 41, .call { callee := .builtin .append, args := #[.tmp 37, .tmp 40], argTypes := #[23, 23] }, 23, "law.go:119", #[⟨4, .data⟩, ⟨7, .data⟩, ⟨4, .chain⟩], none⟩) rfl (fun K hK => ?_) AllReadyH.nil
  rw [if_pos (by rfl)]
  have s0 := ST.out _ hHeld
  have z0 := Ex.size hHeld
  refine wp_append_rd (enc := encN) _ (.tmp 37) (.tmp 40) 23 rfl wz.heap.size 48 (.agg #[.int .i64 0, .string ByteArray.empty, .int .u32 0]) 3 32 Tryd.underlying23 Tryd.infoN rfl (by omega) (by omega) _ (L.drop m) own7 rfl _ _ _ _ (L.take m) s0 (fun h => by cases h) (fun _ => rfl) (by simp [encN, Value.oneCell']) rfl (by rw [List.length_drop]; omega) (by omega) z0 ?_
  intro v8 w8 own8 ch0 ch1
  have j8 : Ex wz w8 := Chg.trans hHeld ch1
  clear ch0 ch1 s0 z0 own7
  obtain ⟨PL, hPL⟩ : ∃ PL, PL = L.drop m ++ L.take m := ⟨_, rfl⟩
  rw [← hPL] at own8
  have HPL := Lib.hid hPL
  have hlp : PL.length = L.length := by rw [hPL]; exact PERM.out.length_eq
  clear hPL
  obtain ⟨A8, C8, rfl, S8, hc8, hm8, _⟩ := own8.slf (fun _ => rfl)
  have S8 := S8.sl
  rw [hlp] at S8 hc8
  clear own8
  refine hK.out _ _ (j8) (fun hHeld => ?_)
  clear hK K
  try simp only [Act.put, List.setIfInBounds_toArray, List.set_cons_zero, List.set_cons_succ]
  refine wpAnyH_ready (rs := [10]) (by kernel_rfl) (by simp) ?_
  refine AllReadyH.cons (o := ⟨some 43, .call { callee := .value (.func 15), args := #[.tmp 41, .tmp 42], argTypes := #[23, 3] }, 33, "law.go:119", #[⟨8, .data⟩, ⟨9, .data⟩, ⟨8, .chain⟩], none⟩) rfl (fun K hK => ?_) AllReadyH.nil
  go_simp
  have TT := TZ.out _ hHeld
  (with_reducible refine (build_p _ _ _ _ _ _ S8 (by omega) hc8 hm8 (fun x hx => RW.out x (PERM.out.mem_iff.1 (by rw [← HPL.out]; exact hx))) TT).mono ?_)
  rintro e w9 ⟨v, qs, rfl, own, kk⟩
  rw [build_perm (by rw [HPL.out]; exact PERM.out) RC.out] at own ⊢
  rw [A0]
  have j9 := hHeld.nx kk
  obtain ⟨aB, cB, rfl, LB, _, _, _, _⟩ := OwnN.nl (encA := encI) (encB := encS) (s1 := 2) (s2 := 2) (fun _ => rfl) (fun _ => rfl) own
  rw [A1] at LB ⊢
  have LB := Lib.hid LB
  clear kk TT S8 own qs
  refine hK.out _ _ (j9) (fun hHeld => ?_)
  clear hK K
  try simp only [Act.put, List.setIfInBounds_toArray, List.set_cons_zero, List.set_cons_succ]
  refine wpAnyH_take (i := 11) (oi := ⟨some 32, .move (.tmp 43), 33, "law.go:119", #[⟨10, .data⟩], none⟩) (v := ?_) rfl (by kernel_rfl) (by kernel_rfl) (by kernel_rfl) (fun _ _ _ h => h) (Or.inl ⟨by rfl, ?hyr1x11q80⟩) (by assumption) ?restr1x11q80
  case hyr1x11q80 => intro wq hSw; (go_simp); (try with_reducible rfl)
  try simp only [Act.put, List.setIfInBounds_toArray, List.set_cons_zero, List.set_cons_succ]
  refine wpAnyH_take (i := 12) (oi := ⟨some 44, .extract (.tmp 32) 0, 31, "law.go:119", #[⟨11, .data⟩], none⟩) (v := ?_) rfl (by kernel_rfl) (by kernel_rfl) (by kernel_rfl) (fun _ _ _ h => h) (Or.inl ⟨by rfl, ?hyr1x12q83⟩) (by assumption) ?restr1x12q83
  case hyr1x12q83 => intro wq hSw; (go_simp); (try with_reducible rfl)
  try simp only [Act.put, List.setIfInBounds_toArray, List.set_cons_zero, List.set_cons_succ]
  refine wpAnyH_take (i := 13) (oi := ⟨some 45, .extract (.tmp 32) 1, 32, "law.go:119", #[⟨11, .data⟩, { on := 14, ground := Ground.gcOnly Departure.lateStores }], none⟩) (v := ?_) rfl (by kernel_rfl) (by kernel_rfl) (by kernel_rfl) (fun _ _ _ h => h) (Or.inl ⟨by rfl, ?hyr1x13q86⟩) (by assumption) ?restr1x13q86
  case hyr1x13q86 => intro wq hSw; (go_simp); (try with_reducible rfl)
  try simp only [Act.put, List.setIfInBounds_toArray, List.set_cons_zero, List.set_cons_succ]
  refine wpAnyH_take (i := 14) (oi := ⟨some 11, .assign (.tmp 44), 31, "law.go:119", #[⟨12, .data⟩, ⟨10, .chain⟩, ⟨0, .phase⟩, ⟨1, .phase⟩, ⟨2, .phase⟩, ⟨3, .phase⟩, ⟨4, .phase⟩, ⟨5, .phase⟩, ⟨6, .phase⟩, ⟨7, .phase⟩, ⟨8, .phase⟩, ⟨9, .phase⟩, ⟨10, .phase⟩, ⟨11, .phase⟩, ⟨12, .phase⟩, { on := 13, ground := Ground.textOnly Departure.lateStores }], none⟩) (v := ?_) rfl (by kernel_rfl) (by kernel_rfl) (by kernel_rfl) (fun _ _ _ h => h) (Or.inl ⟨by rfl, ?hyr1x14q89⟩) (by assumption) ?restr1x14q89
  case hyr1x14q89 => intro wq hSw; (go_simp); (try with_reducible rfl)
  try simp only [Act.put, List.setIfInBounds_toArray, List.set_cons_zero, List.set_cons_succ]
  refine wpAnyH_take (i := 15) (oi := ⟨some 12, .assign (.tmp 45), 32, "law.go:119", #[⟨13, .data⟩, ⟨14, .chain⟩, ⟨0, .phase⟩, ⟨1, .phase⟩, ⟨2, .phase⟩, ⟨3, .phase⟩, ⟨4, .phase⟩, ⟨5, .phase⟩, ⟨6, .phase⟩, ⟨7, .phase⟩, ⟨8, .phase⟩, ⟨9, .phase⟩, ⟨10, .phase⟩, ⟨11, .phase⟩, ⟨12, .phase⟩, ⟨13, .phase⟩, ⟨14, .phase⟩], none⟩) (v := ?_) rfl (by kernel_rfl) (by kernel_rfl) (by kernel_rfl) (fun _ _ _ h => h) (Or.inl ⟨by rfl, ?hyr1x15q92⟩) (by assumption) ?restr1x15q92
  case hyr1x15q92 => intro wq hSw; (go_simp); (try with_reducible rfl)
  try simp only [Act.put, List.setIfInBounds_toArray, List.set_cons_zero, List.set_cons_succ]
  refine wpAnyH_done (by kernel_rfl) ?_ _
  skip
  clear hHeld j6 j7 j8
  have K9 := Lib.hid j9
  have SX := SX.out.nx j9
  have TT := TZ.out _ j9
  have LA := Lib.hid (LA.out.nx j9)
  have LA9 := LA
  have TT9 := Lib.hid TT
  clear j9
  go_wp2_with fail
  (with_reducible refine (build_p _ _ _ _ _ _ SX (by omega) hcX hmX RW.out TT).mono ?_)
  rintro e w10 ⟨v, qs, rfl, own, kk⟩
  obtain ⟨aC, cC, rfl, LC, _, _, hsC, _⟩ := OwnN.nl (encA := encI) (encB := encS) (s1 := 2) (s2 := 2) (fun _ => rfl) (fun _ => rfl) own
  obtain ⟨g, rfl, hg⟩ := hsC (by intro h0; rw [h0] at C1; simp at C1; omega)
  rw [C0]
  have OWN := Lib.hid own
  have KC := Lib.hid kk
  have LA := LA.out.nx kk
  have LB := LB.out.nx kk
  have TT := Lib.hid (TT.nx kk)
  generalize hCC : (buildN L ((h : Int) + 1)).1 = CC at OWN CUT C1 C2 ⊢
  generalize hAA : (buildN L (h : Int)).1 = AA at CUT LA LB BS LA9
  rw [C1]
  clear own LC kk hsC SX hCC hAA
  have LA := Lib.hid LA
  have LB := Lib.hid LB
  have HL := Lib.hid C1
  have HC2 := Lib.hid C2
  clear A0 A1 C0 C1 C2
  go_wp2_with fail
  (with_reducible refine (samelk_r _ _ _ _ _ _ _ _ _ LA.out LB.out (by omega) (fun c hc => Nat.le_trans (BS.out c hc) (by omega))).mono ?_)
  rintro e w11 ⟨rfl, kk⟩
  rw [decide_eq_true (rfl : AA = AA)]
  have LA := Lib.hid (LA.out.nx kk)
  have KD := Lib.hid (KC.out.nx kk)
  have TT := Lib.hid (TT.out.nx kk)
  have OWN := Lib.hid (OWN.out.nx kk)
  have zz : w10.heap.size ≤ w11.heap.size := kk.size
  clear LB kk
  go_wp2_with fail
  go_loopw [15] (fun i wr => OrRel CC (h + 1) w9.heap.size (.slice (some ⟨g, 0, none⟩) L.length cC) w9 i wr) (fun i _ => L.length - (intOf i).toNat)
  case atStart => exact ⟨0, qs, by omega, rfl, by rw [← HL.out]; exact OWN.out, KD.out⟩
  case round =>
    obtain ⟨k, qk, hk, rfl, OK, kw⟩ := hrel
    obtain ⟨wo, rfl⟩ : ∃ wo : World, wo = wr := ⟨_, rfl⟩
    rw [HL.out] at hk
    by_cases hlt : k < L.length
    · obtain ⟨c, hc⟩ : ∃ c, CC[k]? = some c := ⟨CC[k]'(by rw [HL.out]; exact hlt), by simp⟩
      have hcl := HC2.out c (List.mem_of_getElem? hc)
      obtain ⟨hd, hq, oc⟩ := OwnN.get (p := 1) OK (show (cutK CC (h + 1) k)[k]? = some c by rw [cutK_at (by rw [HL.out]; exact hlt)]; exact hc)
      obtain ⟨ha, hn, hcp⟩ := hd
      obtain ⟨a6, c6, e6, r6, hc6, _, _⟩ := oc.rd (fun _ => rfl)
      obtain ⟨rfl, hne, rfl⟩ : ha = a6 ∧ hn = c.2.length ∧ hcp = c6 := by simpa [Hdr.val] using e6
      have hn2 : hn = h + 2 := by omega
      subst hn2
      rw [hcl] at hc6
      obtain ⟨pc, pf, OQ⟩ := OwnN.put (p := 1) (fun _ => rfl) (by decide) OK hq (hd' := (ha, h + 1, hcp)) (c' := c.2.take (h + 1)) (own_cut oc (by omega)) (Chg.refl _ _) (.inl (own_cut_blk ha (h + 2) (h + 1) hcp))
      rw [cutK_set hc] at OQ
      replace pc : wo.cell? ⟨g, k * 2 + 1, none⟩ = some (.slice ha (h + 2) hcp) := pc
      replace pf : wo.frozen? ⟨g, k * 2 + 1, none⟩ = false := pf
      have kn : Ex w9 (wo.setCell ⟨g, k * 2 + 1, none⟩ (Hdr.val (ha, h + 1, hcp))) := kw.setNew _ hg
      have RR := Lib.hid (show OrRel CC (h + 1) w9.heap.size (.slice (some ⟨g, 0, none⟩) L.length cC) w9 (.int .i64 ((k : Int) + 1)) (wo.setCell ⟨g, k * 2 + 1, none⟩ (Hdr.val (ha, h + 1, hcp))) from ⟨k + 1, _, by rw [HL.out]; omega, by go_num, OQ, kn⟩)
      have hcz : (h : Int) + 1 ≤ (hcp : Int) := by omega
      clear OK oc e6 r6 hq hc hcl kw kn OQ hne
      go_wp2_with fail
      exact ⟨RR.out, by simp [intOf]; omega⟩
    · obtain rfl : k = L.length := by omega
      have e1 : cutK CC (h + 1) L.length = AA := by
        rw [← CUT.out, ← HL.out]
        unfold cutK
        rw [List.take_length, List.drop_length, List.append_nil]
      rw [e1] at OK
      obtain ⟨aF, cF, eF, LF, _, _, _, _⟩ := OwnN.nl (encA := encI) (encB := encS) (s1 := 2) (s2 := 2) (fun _ => rfl) (fun _ => rfl) OK
      simp only [Value.slice.injEq] at eF
      obtain ⟨rfl, h0, rfl⟩ := eF
      clear h0
      have LZ := LA9.out.nx kw
      rw [LZ.len] at LF
      have TZ := TT9.out.nx kw
      have QZ := Lib.hid ((QL.out.nx K9.out).nx kw)
      clear kw hk hlt OK e1 TT
      go_wp2_with fail
      (with_reducible refine (samelk_r _ _ _ _ _ _ _ _ _ LZ LF (by omega) (fun c hc => Nat.le_trans (BS.out c hc) (by omega))).mono ?_)
      rintro e w12 ⟨rfl, kk⟩
      rw [decide_eq_true (rfl : AA = AA)]
      have TZ := TZ.nx kk
      have QZ := Lib.hid (QZ.out.nx kk)
      clear kk LZ LF
      go_wp2_with fail
      (with_reducible refine (sane6_x _ TZ).mono ?_)
      rintro e w13 ⟨rfl, kk⟩
      go_wp2_with fail
      go_ret
      exact ⟨rfl, (QZ.out.nx kk).1⟩
end Go.Proofs.YtihpaonhonhfoaaDoor

/- What the laid tables give the walks. -/
namespace Go.Proofs.YtihpaonhonhfoaaDoor
open Go.RowKit

theorem Tryd.gTab : Tryd.prog.globalNamed "math/bits.deBruijn32tab" = some 1 := by kernel_rfl
theorem Tryd.tTab : (Tryd.prog.globals[1]?).map (·.type) = some 116 := by kernel_rfl
theorem Tryd.cells32 : Tryd.prog.cellsOf 116 = 32 := by kernel_rfl
theorem Tryd.cellsU8 : Tryd.prog.cellsOf 5 = 1 := by kernel_rfl
theorem laid_tab {H : Type} : (Rows.laid_math_bits_deBruijn32tab : DataW H) = Lib.tabData .u8 (Lib.deBruijn32tab.map fun (n : Nat) => (n : Int)) := rfl

theorem tabG_of {rest : List (String × DataW Unit)} {W : World} (h : laidMetH Tryd.prog (("math/bits.deBruijn32tab", Rows.laid_math_bits_deBruijn32tab) :: rest) W)
    (hp : ((("math/bits.deBruijn32tab", Rows.laid_math_bits_deBruijn32tab) :: rest).all fun x => x.2.handleName?.isNone) = true) : TabG W := by
  rw [MakeChecks.laidMetH_plain _ _ _ hp, laid_tab] at h
  have ht := Lib.tabIs_of_head Tryd.gTab Tryd.tTab Tryd.underlying116 Tryd.underlying5 Tryd.cellsU8 Tryd.cells32 h
  intro j hj
  have := ht.cell Tryd.gTab j (by simp [Lib.deBruijn32tab]; omega)
  rw [this]
  congr 2
  simp [List.getD, List.getElem?_map]
  cases h : Lib.deBruijn32tab[j]? <;> simp
end Go.Proofs.YtihpaonhonhfoaaDoor

/- What the laid letters give the walks. -/
namespace Go.Proofs.YtihpaonhonhfoaaDoor
open Go.RowKit

theorem Tryd.gLet : Tryd.prog.globalNamed "skipgraph/skipgraphworld.letters" = some 0 := by kernel_rfl
theorem Tryd.tLet : (Tryd.prog.globals[0]?).map (·.type) = some 88 := by kernel_rfl
theorem Tryd.cells6 : Tryd.prog.cellsOf 88 = 6 := by kernel_rfl
theorem Tryd.cellsStr : Tryd.prog.cellsOf 9 = 1 := by kernel_rfl
def letL : List (List UInt8) := [[97], [98], [99], [0], [255], [109]]

/-- AN ARRAY OF STRINGS THAT READS AS A LIST OF STRINGS HOLDS THEM, CELL FOR CELL. -/
theorem cells_of_strs {H : Type} {enc : TypeId × Value → H} {P : Program} {w : World} {base : Nat} {sp : Nat → Bool} {held : Bool} {fuel : Nat} {t e : TypeId} {n : Nat} {cs : List Value} {zs : List (List UInt8)} {p : List MemPlace}
    (ht : P.underlying t = some (.array n e)) (he : P.underlying e = some .string) (hce : P.cellsOf e = 1) (hct : P.cellsOf t = n)
    (h : DataW.trod enc P w base sp held fuel t cs = some (.agg (zs.map fun z => .lit (.string z)), p)) : ∀ (i : Nat) (z : List UInt8), zs[i]? = some z → ∃ s : ByteArray, s.data.toList = z ∧ cs[i]? = some (.string s) := by
  cases fuel with
  | zero => simp [DataW.trod] at h
  | succ fuel =>
    simp only [DataW.trod, ht, hce, hct, Nat.mul_one] at h
    split at h
    · rename_i hl
      obtain ⟨xs, hm, hx⟩ := Option.map_eq_some_iff.1 h
      have hxs : xs.map (·.1) = zs.map fun z => (DataW.lit (.string z) : DataW H) := by
        have := congrArg Prod.fst hx
        simpa using this
      have hxl : xs.length = n := by simpa using Lib.mapM_length hm
      have hzl : zs.length = n := by
        have := congrArg List.length hxs
        simp at this
        omega
      intro i z hz
      have hi : i < n := by have := (List.getElem?_eq_some_iff.1 hz).1; omega
      obtain ⟨b, hb, hf⟩ := Lib.mapM_at hm i i (by simp [hi])
      obtain ⟨s, hc, rfl, _⟩ := DataW.trod_string he hf
      have h1 : cs[i]? = some (.string s) := by
        have := congrArg (·[0]?) hc
        simpa [List.getElem?_take, List.getElem?_drop] using this
      have h2 : (xs.map (·.1))[i]? = some (DataW.lit (.string s.data.toList) : DataW H) := by simp [hb]
      rw [hxs] at h2
      simp only [List.getElem?_map, Option.map_eq_some_iff, DataW.lit.injEq, Lit.string.injEq] at h2
      obtain ⟨z', hz', hzz⟩ := h2
      have : z = z' := Option.some.inj (hz.symm.trans hz')
      exact ⟨s, by rw [this, hzz], h1⟩
    · cases h

theorem laid_let {H : Type} : (Rows.laid_skipgraph_skipgraphworld_letters : DataW H) = .agg (letL.map fun z => .lit (.string z)) := rfl
theorem letG_head {rest : List (String × DataW Unit)} {W : World} (h : laidMet Tryd.prog (("skipgraph/skipgraphworld.letters", .agg (letL.map fun z => .lit (.string z))) :: rest) W) : LetG W := by
  obtain ⟨ps, ⟨g', t', cs, fuel, p, q, hg', ht', hvar, hd, _, _⟩, _⟩ := h
  obtain rfl := Option.some.inj (Tryd.gLet.symm.trans hg')
  obtain rfl := Option.some.inj (Tryd.tLet.symm.trans ht')
  intro j hj
  obtain ⟨z, hz⟩ : ∃ z, letL[j]? = some z := ⟨letL[j]'(by simp [letL]; omega), by simp⟩
  obtain ⟨s, h1, h2⟩ := cells_of_strs Tryd.underlying88 Tryd.underlying9 Tryd.cellsStr Tryd.cells6 hd j z hz
  refine ⟨s, ?_, ?_⟩
  · have hl : z.length = 1 := by
      have : ∀ j, j < 6 → (letL[j]?.getD []).length = 1 := by decide
      have := this j hj
      rw [hz] at this
      exact this
    have : s.data.toList.length = 1 := by rw [h1]; exact hl
    rw [Array.length_toList] at this
    exact this
  · rw [World.var?_cell Tryd.gLet hvar j]
    simpa using h2
theorem letG_of {rest : List (String × DataW Unit)} {W : World} (h : laidMetH Tryd.prog (("skipgraph/skipgraphworld.letters", Rows.laid_skipgraph_skipgraphworld_letters) :: rest) W)
    (hp : ((("skipgraph/skipgraphworld.letters", Rows.laid_skipgraph_skipgraphworld_letters) :: rest).all fun x => x.2.handleName?.isNone) = true) : LetG W := by
  rw [MakeChecks.laidMetH_plain _ _ _ hp, laid_let] at h
  exact letG_head h
end Go.Proofs.YtihpaonhonhfoaaDoor

/- The letters, where they are second on the list of what is laid. -/
namespace Go.Proofs.YtihpaonhonhfoaaDoor
open Go.RowKit

theorem letG_second {x : String × DataW Unit} {W : World} (h : laidMetH Tryd.prog [x, ("skipgraph/skipgraphworld.letters", Rows.laid_skipgraph_skipgraphworld_letters)] W)
    (hp : ([x, ("skipgraph/skipgraphworld.letters", Rows.laid_skipgraph_skipgraphworld_letters)].all fun x => x.2.handleName?.isNone) = true) (hx : decide (x.1 = "skipgraph/skipgraphworld.letters") = false) : LetG W := by
  rw [MakeChecks.laidMetH_plain _ _ _ hp, laid_let] at h
  have h2 := h.filter (fun y => decide (y.1 = "skipgraph/skipgraphworld.letters"))
  rw [List.filter_cons_of_neg (by rw [hx]; simp), List.filter_cons_of_pos (by simp), List.filter_nil] at h2
  exact letG_head h2
end Go.Proofs.YtihpaonhonhfoaaDoor

/- How the arguments of a statement are read: slices as lists. -/
namespace Go.Proofs.YtihpaonhonhfoaaDoor
open Go.ChangeShapes Go.WideShapes Go.ChangeAt Go.RowKit Go.Deep Go.Joins

theorem own : ownKnob Tryd.prog.godebug = none := by kernel_rfl
theorem laidOut : laidOutB Tryd.prog = true := by kernel_rfl

section
variable {H : Type} {enc : TypeId × Value → H} {P : Program} {w : World} {base : Nat} {spare : Nat → Bool} {held : Bool}

theorem addr_lit {a : Addr} {v : Value} {w : World} (h : w.cell? (a.add 0) = some v) : a = ⟨a.block, a.off, none⟩ := by
  obtain ⟨b, o, s⟩ := a
  have : s = none := by simpa [Addr.add] using World.cell?_spot h
  subst this; rfl

/-- a slice of ints that came in -/
theorem rd_ints {t e : TypeId} {k : IntKind} {v : Value} {d : DataW H} {p : List MemPlace} {r : Reach} {b0 : Nat} (ht : P.underlying t = some (.slice e)) (he : P.underlying e = some (.int k)) (hC : P.cellsOf e = 1)
    (hv : Value.okWide P w r b0 t v) (h : DataW.Trod enc P w base spare held t v d p) :
    ∃ a n c l, v = .slice a n c ∧ Rd 1 (fun x : Int => [Value.int k x]) (· < w.heap.size) w a n l ∧ n ≤ c ∧ c ≤ maxLen ∧ (∀ x ∈ l, (Lit.int k x).wf = true) ∧ (a = none → c = 0) := by
  obtain ⟨a0, len0, cap0, rfl⟩ := okWide_slice ht hv
  obtain ⟨fuel, hf⟩ := h
  rcases open_ints ht he hC hf with ⟨hcs, _⟩ | ⟨x, l, c, zs, hcs, _, hl, hm, hz, _, hcell, hwz⟩
  · simp [Value.cells] at hcs
    obtain ⟨rfl, rfl, rfl⟩ := hcs
    exact ⟨none, 0, 0, [], rfl, Rd.nil _ _ _ _ _, by omega, by unfold maxLen; omega, by simp, fun _ => rfl⟩
  · simp [Value.cells] at hcs
    obtain ⟨rfl, rfl, rfl⟩ := hcs
    have hz' : len0 ≤ zs.length := by rw [hz]; split <;> omega
    refine ⟨_, len0, cap0, zs.take len0, rfl, ⟨by simp; omega, ?_⟩, hl, hm, fun y hy => hwz y (List.mem_of_mem_take hy), fun h => by cases h⟩
    rcases Nat.eq_zero_or_pos len0 with h0 | h0
    · exact .inl h0
    · have hx := addr_lit (hcell 0 (by omega))
      refine .inr ⟨x.block, x.off, by rw [← hx], ?_, fun j y hj c u hu => ?_⟩
      · have := World.block_lt_of_cell? w _ (hcell 0 (by omega))
        rw [hx] at this
        simpa [Addr.add] using this
      · have hj' : j < len0 := by
          have := (List.getElem?_eq_some_iff.1 hj).1
          simp at this; omega
        have hy : zs.getD j 0 = y := by
          rw [List.getElem?_take, if_pos hj'] at hj
          simp [List.getD, hj]
        have hc := hcell j (by omega)
        rw [hx, Addr.add_lit, hy] at hc
        rcases c with _ | c
        · simp at hu; subst hu; simpa using hc
        · simp at hu

theorem open_slice_fields {t e : TypeId} {fs : Array Field} {fuel : Nat} {cs : List Value} {x : DataW H × List MemPlace} (ht : P.underlying t = some (.slice e)) (he : P.underlying e = some (.struct fs))
    (hone : oneCellFields P fs = true) (hC : P.cellsOf e = fs.size) (h : DataW.trod enc P w base spare held fuel t cs = some x) :
    (cs = [.slice none 0 0] ∧ x = (.nil, [])) ∨
    ∃ (a : Addr) (len cap m : Nat), cs = [.slice (some a) len cap] ∧ len ≤ cap ∧ cap ≤ maxLen ∧ m = (if spare a.block then cap else len) ∧
      ∀ i, i < m → ∃ (n : Nat), ∀ (j : Nat) (f : Field), fs[j]? = some f → ∃ (v : Value) (y : DataW H × List MemPlace), w.cell? (a.add (i * fs.size + j)) = some v ∧ DataW.trod enc P w base spare held n f.type [v] = some y := by
  rcases open_slice ht h with h0 | ⟨a, len, cap, m, n, D, Pl, hcs, hb, hl, hm, hmm, hx, hi⟩
  · exact .inl h0
  · refine .inr ⟨a, len, cap, m, hcs, hl, hm, hmm, fun i him => ?_⟩
    obtain ⟨cs', hc, ht'⟩ := hi i him
    rw [hC] at hc
    obtain ⟨ys, n', hn', hy, hlen, hyl, hf⟩ := DataW.trod_struct he ht'
    obtain ⟨_, hcl, hat⟩ := World.cells?_some hc
    refine ⟨n', fun j f hj => ?_⟩
    obtain ⟨ho, hk⟩ := hone_of hone j f hj
    have hjl : j < fs.size := (Array.getElem?_eq_some_iff.1 hj).1
    have hcell := hat j hjl
    have hv : cs'[j]? = some (cs'[j]'(by omega)) := List.getElem?_eq_getElem (by omega)
    have h1 := hf j f hj
    rw [ho, hk] at h1
    have hone' : (cs'.drop j).take 1 = [cs'[j]'(by omega)] := by
      rw [List.drop_eq_getElem_cons (by omega)]
      rfl
    rw [hone'] at h1
    have hys : ys[j]? = some (ys[j]'(by omega)) := List.getElem?_eq_getElem (by omega)
    refine ⟨_, _, ?_, h1.trans hys⟩
    rw [← Go.Deep.add_add, hcell, hv]

/-- a list that is given one element at a time -/
theorem list_of {α : Type} {p : Nat → α → Prop} : ∀ n, (∀ i, i < n → ∃ y, p i y) → ∃ l : List α, l.length = n ∧ ∀ (i : Nat) y, l[i]? = some y → p i y
  | 0, _ => ⟨[], rfl, by simp⟩
  | n + 1, h => by
    obtain ⟨l, hl, hp⟩ := list_of n (fun i hi => h i (by omega))
    obtain ⟨y, hy⟩ := h n (by omega)
    refine ⟨l ++ [y], by simp [hl], fun i z hz => ?_⟩
    rcases Nat.lt_or_ge i n with hi | hi
    · exact hp i z (by rwa [List.getElem?_append_left (by omega)] at hz)
    · rw [List.getElem?_append_right (by omega)] at hz
      have : i = n := by
        rcases Nat.eq_zero_or_pos (i - l.length) with h0 | h0
        · omega
        · rw [List.getElem?_eq_none (by simp; omega)] at hz; cases hz
      subst this
      simp [hl] at hz
      subst hz; exact hy

/-- a slice of structs that came in, each element read by 'rel' -/
theorem rd_structs {α : Type} {k : Nat} {encS : α → List Value} {t e : TypeId} {fs : Array Field} {v : Value} {d : DataW H} {p : List MemPlace} {r : Reach} {b0 : Nat} (ht : P.underlying t = some (.slice e)) (he : P.underlying e = some (.struct fs))
    (hone : oneCellFields P fs = true) (hC : P.cellsOf e = fs.size) (hk : fs.size = k) (hk0 : 0 < k)
    (hv : Value.okWide P w r b0 t v) (h : DataW.Trod enc P w base spare held t v d p)
    (hel : ∀ (n : Nat) (cell : Nat → Option Value), (∀ (j : Nat) (f : Field), fs[j]? = some f → ∃ (v : Value) (y : DataW H × List MemPlace), cell j = some v ∧ DataW.trod enc P w base spare held n f.type [v] = some y) → ∃ y : α, ∀ c u, (encS y)[c]? = some u → cell c = some u) :
    ∃ a n c l, v = .slice a n c ∧ Rd k encS (· < w.heap.size) w a n l ∧ n ≤ c ∧ c ≤ maxLen ∧ (a = none → c = 0) := by
  subst hk
  obtain ⟨a0, len0, cap0, rfl⟩ := okWide_slice ht hv
  obtain ⟨fuel, hf⟩ := h
  rcases open_slice_fields ht he hone hC hf with ⟨hcs, _⟩ | ⟨x, len, cap, m, hcs, hl, hm, hmm, hi⟩
  · simp [Value.cells] at hcs
    obtain ⟨rfl, rfl, rfl⟩ := hcs
    exact ⟨none, 0, 0, [], rfl, Rd.nil _ _ _ _ _, by omega, by unfold maxLen; omega, fun _ => rfl⟩
  · simp [Value.cells] at hcs
    obtain ⟨rfl, rfl, rfl⟩ := hcs
    have hlm : len0 ≤ m := by rw [hmm]; split <;> omega
    obtain ⟨l, hll, hlp⟩ := list_of (p := fun i (y : α) => ∀ c u, (encS y)[c]? = some u → w.cell? (x.add (i * fs.size + c)) = some u) len0 (fun i hi' => by
      obtain ⟨n, hn⟩ := hi i (by omega)
      exact hel n (fun j => w.cell? (x.add (i * fs.size + j))) hn)
    refine ⟨_, len0, cap0, l, rfl, ⟨hll, ?_⟩, hl, hm, fun h => by cases h⟩
    rcases Nat.eq_zero_or_pos len0 with h0 | h0
    · exact .inl h0
    · obtain ⟨n, hn⟩ := hi 0 (by omega)
      obtain ⟨v0, _, hv0, _⟩ := hn 0 (fs[0]) (by simp)
      have hv0 : w.cell? (x.add 0) = some v0 := by simpa using hv0
      have hx := addr_lit hv0
      refine .inr ⟨x.block, x.off, by rw [← hx], ?_, fun j y hj c u hu => ?_⟩
      · have := World.block_lt_of_cell? w _ hv0
        rw [hx] at this
        simpa [Addr.add] using this
      · have := hlp j y hj c u hu
        rw [hx, Addr.add_lit] at this
        simpa [Nat.add_assoc] using this
end
end Go.Proofs.YtihpaonhonhfoaaDoor

/-
  IdealOrderless returns true for every list of numbers and every number, and leaves its arguments as they were.
  Condition: the table of math/bits and the letters of the keys are as the program text lays them (tied by the card).
-/
namespace Go.Proofs.YtihpaonhonhfoaaDoor
open Go.ChangeShapes Go.WideShapes Go.ChangeAt Go.RowKit Go.Deep Go.Joins
open Go.ChangeMaps (open_string shut_string)
set_option linter.unusedVariables false
theorem Tryd.cellsInt : Tryd.prog.cellsOf 3 = 1 := by kernel_rfl

set_option maxRecDepth 100000 in
set_option maxHeartbeats 1000000 in
theorem idealOrderless_lifted (os : Os) (started : os.Started) (H : Type) (enc : TypeId × Value → H) :
    ReturnsInHanded {} Tryd.checked os 6 .any (fun w args => (Rows.idealOrderlessSpec.pre enc Tryd.prog Tryd.f6 [] false w args ∧ laidMetH Tryd.prog Rows.idealOrderlessRow.laid w) ∧ sizedMet enc Tryd.prog Tryd.f6 (OpenSpec.ofChange Rows.idealOrderlessSpec) false w args)
      (Rows.idealOrderlessSpec.post enc Tryd.prog Tryd.f6 false true false false) := by
  refine returnsInHanded_of_change_and (C := Tryd.checked) (X := fun w _ => laidMetH Tryd.prog Rows.idealOrderlessRow.laid w) (fun _ _ _ hh h => h.of_heap hh) own started (by kernel_rfl) Tryd.func6
    (ChangeSpec.witness_shaped (enc := enc) (C := Tryd.checked) (os := os) (X := fun w _ => laidMetH Tryd.prog Rows.idealOrderlessRow.laid w) false (World.doorLaid Tryd.prog 400 os) #[.slice none 0 0, .int .i64 0] 8 rfl (World.shaped_of_RefB (by kernel_rfl) (by kernel_rfl)) (by kernel_rfl) (by kernel_rfl) (by kernel_rfl) (laidMetH_of_parts3 (fuel := 8) (laidMet_of_run' 8 (by kernel_rfl) (by kernel_rfl)) (by kernel_rfl) (by kernel_rfl))) ?_
  intro W base args ds gs before hval0 hW _ _ hL _
  have hval : ∀ (j : Nat) t v, Tryd.f6.params[j]? = some t → args[j]? = some v → Value.okWide Tryd.prog W .any base t v := hval0
  have hW' := hW
  obtain ⟨p, q, hA0, hV, rfl, hfz, hnd⟩ := hW
  have hA : DataW.TrodAll enc Tryd.prog W 0 (fun _ => true) true Tryd.f6.params.toList args.toList ds p := hA0
  rw [Tryd.params6] at hA hval
  obtain ⟨v0, vs0, d0, ds0, p0, q0, hargs, rfl, rfl, h0, r0⟩ := trodAll_cons hA
  obtain ⟨v1, vs1, d1, ds1, p1, q1, rfl, rfl, rfl, h1, r1⟩ := trodAll_cons r0
  obtain ⟨rfl, rfl, rfl⟩ := trodAll_nil r1
  obtain rfl : args = #[v0, v1] := by cases args; simp_all
  obtain ⟨rfl, rfl⟩ := trodVars_none hV
  have k0 := h0
  have lt0 : ∀ x ∈ p0, x.block < W.heap.size := by obtain ⟨m, hm⟩ := k0; exact DataW.trod_lt m _ _ _ hm
  have k1 := h1
  have lt1 : ∀ x ∈ p1, x.block < W.heap.size := by obtain ⟨m, hm⟩ := k1; exact DataW.trod_lt m _ _ _ hm
  obtain ⟨A0, n0, cap0, l0, rfl, rd0, hc0, hm0, wf0, nl0⟩ := rd_ints Tryd.underlying22 Tryd.underlying3 Tryd.cellsInt (hval 0 22 v0 rfl rfl) h0
  obtain ⟨a1, rfl, rfl, rfl, wa1⟩ := open_int Tryd.underlying3 (hval 1 3 v1 rfl rfl) h1
  clear hA0 hval0
  have hT : TabG W := tabG_of hL (by kernel_rfl)
  have hL2 : LetG W := letG_second hL (by kernel_rfl) (by kernel_rfl)
  refine (idealorderless_walk A0 n0 cap0 l0 a1 W rd0 hc0 hm0 hT hL2).mono fun e W' ⟨he, hch⟩ => ?_
  have bel : Below W.heap.size W W' := hch.below (fun _ h => h)
  subst he
  exact ⟨_, rfl, _, _, _, [], _, [], hW', trodAll_mk1 (shut_bool Tryd.underlying4 _), (trodAll_cons_mk (Below.trod laidOut (by kernel_rfl) (of_decide_eq_true (by kernel_rfl)) k0 bel lt0) (trodAll_cons_mk (Below.trod laidOut (by kernel_rfl) (of_decide_eq_true (by kernel_rfl)) k1 bel lt1) trodAll_mk0)), rfl, bel.frame _, fun h => by cases h⟩

theorem idealOrderless_over : Rows.idealOrderlessRow.holds Tryd.pinned (OpenSpec.ofChange Rows.idealOrderlessSpec) :=
  OpenClaim.holds_of_wide 6 Tryd.f6 rfl rfl rfl rfl rfl rfl rfl ⟨rfl, rfl, rfl, rfl, rfl⟩ rfl rfl rfl rfl rfl (by kernel_rfl) Tryd.func6 (by kernel_rfl)
    (of_decide_eq_true (by kernel_rfl)) (by unfold Func.isWrapper; first | (rw [if_pos (by decide +kernel)]; kernel_rfl) | (rw [if_neg (by decide +kernel)]; exact ⟨rfl, rfl⟩))
    (fun os started H enc _ => idealOrderless_lifted os started H enc)

/-- THE STATEMENT: the tied card -/
theorem IdealOrderless_holds : Rows.IdealOrderlessCardSaid :=
  Claim7.holds_tied_plain_at .later [] [.data, .data] true (true, "e1df6b8c7a9f2dde5709fc3dc52eee6f4d1df17faed4261507bdc09cf750f39d") false
    idealOrderless_over (fun _ h => by cases h) (by kernel_rfl) (fun _ h => by cases h) idealOrderless_row_tie rfl ⟨rfl, rfl⟩ (by kernel_rfl) rfl
    (fun f fn hf hfn => by
      obtain rfl : f = 6 := Option.some.inj ((show Tryd.prog.funcNamed "skipgraph/skipgraphlaw6.IdealOrderless" = some 6 by kernel_rfl).symm.trans hf) |>.symm
      obtain rfl : fn = Tryd.f6 := (Option.some.inj (Tryd.func6.symm.trans hfn)).symm
      exact ⟨by kernel_rfl, fun j t ht => by
        rw [Tryd.params6] at ht
        have hm : t ∈ [22, 3] := by simpa using Array.mem_of_getElem? ht
        have hall : ([22, 3].all fun u => !Tryd.prog.wantsStandIn u) = true := by kernel_rfl
        exact (show Tryd.prog.wantsStandIn t = false by simpa using List.all_eq_true.1 hall t hm)⟩)
    (by kernel_rfl)
#print axioms IdealOrderless_holds
end Go.Proofs.YtihpaonhonhfoaaDoor
