/- Texts for the statement LinearRoundsProof, part 4 of 9: Odd, BldM, BldW, BldQ, IdlL, Lin, Per, Rnd, LinP, Bri, RouP, RouA, SrP, SrE, RepP, JoiP, ConP, Wo, ConL, Has, MapS, RedA, LoopT, RedB, RedD, PrR, ApW. -/
import Derived.Lib.SliceRun
import Derived.Maps.OwnSet
import Derived.Maps.OwnOps
import Derived.BigQuiet
import Derived.BigRegion
import Derived.Test.YtbnbjiddffihoaaGreatDoorLinearRoundsProofPk1
import Derived.Test.YtbnbjiddffihoaaGreatDoorLinearRoundsProofPk2
import Derived.Test.YtbnbjiddffihoaaGreatDoorLinearRoundsProofPk3

/- OddRoster of the tape. -/
namespace Go.Proofs.YtbnbjiddffihoaaGreatDoor
open Go.RowKit

theorem flat_set1 {α : Type} {sz : Nat} {enc : α → List Value} (hsz : ∀ y, (enc y).length = sz) {c : Nat} (hc : c < sz) {y' : α} {v : Value} :
    ∀ (L : List α) (j : Nat) (y : α), L[j]? = some y → enc y' = (enc y).set c v → (L.set j y').flatMap enc = (L.flatMap enc).set (j * sz + c) v
  | [], j, y, h, _ => by simp at h
  | z :: r, 0, y, h, hv => by
    simp at h; subst h
    rw [List.set_cons_zero, List.flatMap_cons, List.flatMap_cons, hv, Nat.zero_mul, Nat.zero_add, List.set_append_left _ _ (by rw [hsz]; exact hc)]
  | z :: r, j + 1, y, h, hv => by
    rw [List.set_cons_succ, List.flatMap_cons, List.flatMap_cons, flat_set1 hsz hc r j y (by simpa using h) hv, List.set_append_right _ _ (by rw [hsz, Nat.succ_mul]; omega), hsz]
    congr 2
    rw [Nat.succ_mul]; omega
theorem own_set1 {α : Type} {sz : Nat} {enc : α → List Value} (hsz : ∀ y, (enc y).length = sz) {e : TypeId} {base : Nat} {w : World} {g n cap j c : Nat} {L : List α} {y : α} (h : OwnL sz enc e base w (.slice (some ⟨g, 0, none⟩) n cap) L)
    (hy : L[j]? = some y) (hc : c < sz) : w.cell? ⟨g, j * sz + c, none⟩ = (enc y)[c]? ∧ w.frozen? ⟨g, j * sz + c, none⟩ = false ∧
      ∀ (y' : α) (v : Value), enc y' = (enc y).set c v → OwnL sz enc e base (w.setCell ⟨g, j * sz + c, none⟩ v) (.slice (some ⟨g, 0, none⟩) n cap) (L.set j y') := by
  rcases h.2 with ⟨h1, _⟩ | ⟨g', cap', cur, e1, e2, e3, e4, e5, e6, e7⟩
  · cases h1
  · obtain ⟨rfl, hLn, rfl⟩ : g = g' ∧ n = L.length ∧ cap = cap' := by simpa using e1
    have hjl := (List.getElem?_eq_some_iff.1 hy).1
    have hlt : j * sz + c < L.length * sz := by
      have : (j + 1) * sz ≤ L.length * sz := Nat.mul_le_mul_right _ hjl
      rw [Nat.succ_mul] at this; omega
    refine ⟨?_, by simp [World.frozen?, e3], fun y' v hv => ⟨?_, .inr ⟨g, cap, _, by simp [hLn], e2, heap_set e3 _ v, by simpa using e4, e5, by simpa using e6, ?_⟩⟩⟩
    · have h2 : (cur.toList.take (L.length * sz))[j * sz + c]? = (enc y)[c]? := by
        rw [e7]
        have hcy : c < (enc y).length := by rw [hsz]; exact hc
        rw [List.getElem?_eq_getElem hcy]
        exact flat_at hsz L j y hy c _ (List.getElem?_eq_getElem hcy)
      rw [List.getElem?_take, if_pos hlt] at h2
      simpa [World.cell?, e3] using h2
    · rw [flatN_len hsz]
    · rw [flat_set1 hsz hc L j y hy hv, ← e7, List.length_set]
      simp only [Array.toList_setIfInBounds, List.take_set]

def NOk (x : Nd) : Prop := I64 x.id ∧ x.word < 4294967296 ∧ x.key.size ≤ 65
theorem roster_ok {l : List Nd} (h : checkN l = 0) : ∀ x ∈ l, NOk x ∧ 1 ≤ x.id ∧ x.id ≤ 2147483647 ∧ x.key.size ≤ 64 ∧ x.word < 65536 := by
  intro x hx
  have hb : badN x = false := by
    cases hb : badN x with
    | false => rfl
    | true =>
      exfalso
      unfold checkN at h
      have : l.any badN = true := List.any_eq_true.2 ⟨x, hx, hb⟩
      rw [this] at h
      split at h <;> simp at h
  unfold badN validN at hb
  simp at hb
  obtain ⟨⟨⟨h1, h2⟩, h3⟩, h4⟩ := hb
  exact ⟨⟨⟨by omega, by omega⟩, by omega, by omega⟩, by omega, by omega, by omega, by omega⟩
structure OddOf (n b : Nat) (w w' : World) (v : Value) (L : List Nd) : Prop where
  own : OwnL 3 encN 57 w.heap.size w' v L
  len : L.length ≤ n + 1
  ok : ∀ x ∈ L, NOk x
  tape : TK w' b
  k : Exb b w w'
theorem ok_set {L : List Nd} (h : ∀ x ∈ L, NOk x) (j : Nat) {y : Nd} (hy : NOk y) : ∀ x ∈ L.set j y, NOk x := fun x hx => by
  rcases List.mem_or_eq_of_mem_set hx with h1 | rfl
  · exact h x h1
  · exact hy
theorem ok_snoc {L : List Nd} (h : ∀ x ∈ L, NOk x) {y : Nd} (hy : NOk y) : ∀ x ∈ L ++ [y], NOk x := fun x hx => by
  rcases List.mem_append.1 hx with h1 | h1
  · exact h x h1
  · rw [List.mem_singleton.1 h1]; exact hy

set_option maxRecDepth 100000 in
set_option maxHeartbeats 8000000 in
theorem oddroster_t {b : Nat} (a : Option Addr) (n cp : Nat) (l : List Nd) (w : World) (h : TK w b) (hs : Slb 3 encN b w a n l) (hnil : a = none → cp = 0) (hn : n ≤ 100) (hok : ∀ x ∈ l, NOk x) (hL : LetG w) (hgb : ¬ 0 = b) :
    Calls Tryz.prog 12 #[.pointer (some ⟨b, 0, none⟩), .slice a n cp] w fun e w' => ∃ v L, e = .returned v ∧ OddOf n b w w' v L := by
  have OK := Lib.hid hok
  have NIL := Lib.hid hnil
  have hlen := hs.len
  have hbw := h.lt
  have own0 : OwnL 3 encN 57 w.heap.size w (.slice none 0 0) [] := OwnL.nil _ _ _ _ _
  have s0 := hs.sl
  clear hok hnil
  go_enter Tryz.func12, Tryz.ntmps12
  go_upto_region 2 with (at_builtin; (refine wpList_append_rd (enc := encN) w rfl (.const (.slice none 0 0)) (.tmp 6) 23 rfl w.heap.size 57 (.agg #[.int .i64 0, .string ByteArray.empty, .int .u32 0]) 3 32 Tryz.underlying23 Tryz.infoN rfl (by omega) (by omega) _ [] own0 rfl _ a n cp l s0 NIL.out (fun _ => rfl) (by simp [encN, Value.oneCell']) rfl (by simp) (by omega) (Nat.le_refl _) ?_); intro v1 w1 own1 ch0 ch1)
  rw [List.nil_append] at own1
  have k1 : Ex w w1 := ch1
  replace h := h.nx k1
  replace hL := hL.nx k1
  have kk := k1.b b
  obtain ⟨a1, c1, rfl, _, _, _, some1⟩ := own1.rd (fun _ => rfl)
  subst hlen
  have z1 := k1.size
  have k1 := Lib.hid k1
  clear own0 s0 hs ch0 ch1
  by_cases hn0 : l.length = 0
  · have d0 : ((l.length : Int) == 0) = true := by rw [hn0]; rfl
    have hl0 : l = [] := List.eq_nil_of_length_eq_zero hn0
    subst hl0
    have own1 : OwnL 3 encN 57 w.heap.size w1 (.slice a1 0 c1) [] := own1
    clear some1 hn0
    go_wp2_with fail
    refine (pick_t (n := 3) (-1) 1 [0, 1, -1] h rfl rfl rfl (by omega) (by omega) (by intro x hx; simp at hx; omega)).mono ?_
    clear h
    rintro e w2 ⟨r, rfl, r0, r1, T, k2⟩
    have own2 := own1.nxb hbw k2
    replace kk := kk.nxb k2
    replace hL := hL.nxb hgb k2
    clear own1 k2
    go_wp2_with fail
    refine (oddkey_t _ T hL hgb).mono ?_
    clear T
    rintro e w3 ⟨s, rfl, hsz, T, k2⟩
    have own3 := own2.nxb hbw k2
    replace kk := kk.nxb k2
    clear own2 k2 hL
    go_wp2_with fail
    refine (pick_t (n := 2) (0) 65536 [0, 65536] T rfl rfl rfl (by omega) (by omega) (by intro x hx; simp at hx; omega)).mono ?_
    clear T
    rintro e w4 ⟨m, rfl, m0, m1, T, k2⟩
    obtain ⟨m, rfl⟩ := Int.eq_ofNat_of_zero_le m0
    have hmw : IntKind.u32.wrap (m : Int) = (m : Int) := by rw [wrap_u32n]; omega
    have own4 := own3.nxb hbw k2
    replace kk := kk.nxb k2
    have z4 := kk.size
    clear own3 k2
    go_wp2_with (at_builtin; (refine wpList_append_lit (enc := encN) w4 rfl _ _ 23 rfl w.heap.size 57 (.agg #[.int .i64 0, .string ByteArray.empty, .int .u32 0]) 3 32 Tryz.underlying23 Tryz.infoN rfl (by omega) (by omega) _ _ own4 rfl (⟨r, s, m⟩ : Nd) _ rfl rfl (by simp [encN, Value.oneCell']) _ (by simp) rfl (by omega) (by omega) _ ?_); intro v9 w9 own9 ch0 ch1 _)
    go_ret
    exact ⟨v9, _, rfl, ⟨own9, by simp, ok_snoc OK.out ⟨⟨by show _ ≤ r; omega, by show r ≤ _; omega⟩, by show m < _; omega, hsz⟩, TP.chg T ch1 (fun x hx => by omega), Chg.trans kk (ch1.mono (fun x hx => hx.1))⟩⟩
  · have d0 : ((l.length : Int) == 0) = false := beq_eq_false_iff_ne.2 (by omega)
    obtain ⟨g, rfl, hg⟩ := some1 (fun h0 => hn0 (by rw [h0]; rfl))
    have hlp : 0 < l.length := by omega
    have hgb' : ¬ g = b := by omega
    have HN0 := Lib.hid hn0
    clear some1 hn0
    go_wp2_with fail
    refine (next_t (l.length : Int) _ h (by omega) (by omega)).mono ?_
    clear h
    rintro e w2 ⟨j, rfl, j0, j1, T, k2⟩
    obtain ⟨j, rfl⟩ := Int.eq_ofNat_of_zero_le j0
    have hjl : j < l.length := by omega
    have hjl' : (j : Int) < (l.length : Int) := by omega
    have own2 := own1.nxb hbw k2
    replace kk := kk.nxb k2
    replace hL := hL.nxb hgb k2
    obtain ⟨y, hy⟩ : ∃ y, l[j]? = some y := ⟨l[j], by simp⟩
    have hyok := Lib.hid (OK.out y (List.mem_of_getElem? hy))
    have HY := Lib.hid hy
    clear own1 k2 hy
    go_wp2_with fail
    refine (next_t 6 _ T (by omega) (by omega)).mono ?_
    clear T
    rintro e w3 ⟨r, rfl, r0, r1, T, k2⟩
    have own3 := own2.nxb hbw k2
    replace kk := kk.nxb k2
    replace hL := hL.nxb hgb k2
    clear own2 k2
    have hr : r = 0 ∨ r = 1 ∨ r = 2 ∨ r = 3 ∨ r = 4 ∨ r = 5 := by omega
    clear r0 r1
    rcases hr with rfl | rfl | rfl | rfl | rfl | rfl
    · go_wp2_with fail
      refine (pick_t (n := 5) (-9223372036854775808) 2147483648 [0, -1, 2147483648, 2147483647, -9223372036854775808] T rfl rfl rfl (by omega) (by omega) (by intro x hx; simp at hx; omega)).mono ?_
      clear T hL
      rintro e w4 ⟨m, rfl, m0, m1, T, k2⟩
      have own4 := own3.nxb hbw k2
      replace kk := kk.nxb k2
      obtain ⟨q0, f0, OS⟩ := own_set1 (sz := 3) (enc := encN) (c := 0) (fun _ => rfl) own4 HY.out (by omega)
      have q0 : w4.cell? ⟨g, j * 3, none⟩ = some (.int .i64 y.id) := q0
      have f0 : w4.frozen? ⟨g, j * 3, none⟩ = false := f0
      have OS := Lib.hid (OS ⟨m, y.key, y.word⟩ (.int .i64 m) rfl)
      clear own3 own4 k2
      go_wp2_with fail
      go_ret
      exact ⟨_, _, rfl, ⟨OS.out, by simp, ok_set OK.out j ⟨⟨by show _ ≤ m; omega, by show m ≤ _; omega⟩, hyok.out.2.1, hyok.out.2.2⟩, T.set _ (by show b < g; omega), kk.setNew _ hg⟩⟩
    · go_wp2_with fail
      refine (oddkey_t _ T hL hgb).mono ?_
      clear T hL
      rintro e w4 ⟨s, rfl, hsz, T, k2⟩
      have own4 := own3.nxb hbw k2
      replace kk := kk.nxb k2
      obtain ⟨q0, f0, OS⟩ := own_set1 (sz := 3) (enc := encN) (c := 1) (fun _ => rfl) own4 HY.out (by omega)
      have q0 : w4.cell? ⟨g, j * 3 + 1, none⟩ = some (.string y.key) := q0
      have OS := Lib.hid (OS ⟨y.id, s, y.word⟩ (.string s) rfl)
      clear own3 own4 k2
      go_wp2_with fail
      go_ret
      exact ⟨_, _, rfl, ⟨OS.out, by simp, ok_set OK.out j ⟨hyok.out.1, hyok.out.2.1, hsz⟩, T.set _ (by show b < g; omega), kk.setNew _ hg⟩⟩
    · go_wp2_with fail
      refine (pick_t (n := 3) (0) 4294967295 [65536, 4294967295, 5] T rfl rfl rfl (by omega) (by omega) (by intro x hx; simp at hx; omega)).mono ?_
      clear T hL
      rintro e w4 ⟨m, rfl, m0, m1, T, k2⟩
      obtain ⟨m, rfl⟩ := Int.eq_ofNat_of_zero_le m0
      have hmw : IntKind.u32.wrap (m : Int) = (m : Int) := by rw [wrap_u32n]; omega
      have own4 := own3.nxb hbw k2
      replace kk := kk.nxb k2
      obtain ⟨q0, f0, OS⟩ := own_set1 (sz := 3) (enc := encN) (c := 2) (fun _ => rfl) own4 HY.out (by omega)
      have q0 : w4.cell? ⟨g, j * 3 + 2, none⟩ = some (.int .u32 y.word) := q0
      have OS := Lib.hid (OS ⟨y.id, y.key, m⟩ (.int .u32 m) rfl)
      clear own3 own4 k2
      go_wp2_with fail
      go_ret
      exact ⟨_, _, rfl, ⟨OS.out, by simp, ok_set OK.out j ⟨hyok.out.1, by show m < _; omega, hyok.out.2.2⟩, T.set _ (by show b < g; omega), kk.setNew _ hg⟩⟩
    · have e0 : w3.cell? ⟨g, j * 3, none⟩ = some (.int .i64 y.id) := (own_set1 (sz := 3) (enc := encN) (c := 0) (fun _ => rfl) own3 HY.out (by omega)).1
      have e1 : w3.cell? ⟨g, j * 3 + 1, none⟩ = some (.string y.key) := (own_set1 (sz := 3) (enc := encN) (c := 1) (fun _ => rfl) own3 HY.out (by omega)).1
      have e2 : w3.cell? ⟨g, j * 3 + 1 + 1, none⟩ = some (.int .u32 y.word) := (own_set1 (sz := 3) (enc := encN) (c := 2) (fun _ => rfl) own3 HY.out (by omega)).1
      have z4 := kk.size
      clear hL
      go_wp2_with (at_builtin; (refine wpList_append_lit (enc := encN) w3 rfl _ _ 23 rfl w.heap.size 57 (.agg #[.int .i64 0, .string ByteArray.empty, .int .u32 0]) 3 32 Tryz.underlying23 Tryz.infoN rfl (by omega) (by omega) _ _ own3 rfl y _ rfl rfl (by simp [encN, Value.oneCell']) _ (by simp) rfl (by omega) (by omega) _ ?_); intro v9 w9 own9 ch0 ch1 _)
      go_ret
      exact ⟨v9, _, rfl, ⟨own9, by simp, ok_snoc OK.out hyok.out, TP.chg T ch1 (fun x hx => by omega), Chg.trans kk (ch1.mono (fun x hx => hx.1))⟩⟩
    · clear hL
      go_wp2_with fail
      have own4 : OwnL 3 encN 57 w.heap.size w3.drew (.slice (some ⟨g, 0, none⟩) l.length c1) l := own3.nxb hbw (Exb.refl b w3).drew
      have T : TK w3.drew b := T
      have kk := kk.drew
      clear own3
      refine wp_region_held_drew (S := fun _ => True) (by kernel_rfl) (trivial) (fun hHeld => ?_)
      refine wpAnyH_take (i := 0) (oi := ⟨some 76, .move (.tmp 1), 23, "tape.go:165", #[], none⟩) (v := ?_) rfl (by kernel_rfl) (by kernel_rfl) (by kernel_rfl) (fun _ _ _ h => h) (Or.inl ⟨by rfl, ?hyr1x0q1⟩) (by assumption) ?restr1x0q1
      case hyr1x0q1 => intro wq hSw; (go_simp); (try with_reducible rfl)
      try simp only [Act.put, List.setIfInBounds_toArray, List.set_cons_zero, List.set_cons_succ]
      refine wpAnyH_take (i := 1) (oi := ⟨some 77, .move (.tmp 0), 25, "tape.go:165", #[], none⟩) (v := ?_) rfl (by kernel_rfl) (by kernel_rfl) (by kernel_rfl) (fun _ _ _ h => h) (Or.inl ⟨by rfl, ?hyr1x1q4⟩) (by assumption) ?restr1x1q4
      case hyr1x1q4 => intro wq hSw; (go_simp); (try with_reducible rfl)
      try simp only [Act.put, List.setIfInBounds_toArray, List.set_cons_zero, List.set_cons_succ]
      refine wpAnyH_take (i := 4) (oi := ⟨some 80, .move (.tmp 5), 60, "tape.go:165", #[], none⟩) (v := ?_) rfl (by kernel_rfl) (by kernel_rfl) (by kernel_rfl) (fun _ _ _ h => h) (Or.inl ⟨by rfl, ?hyr1x4q7⟩) (by assumption) ?restr1x4q7
      case hyr1x4q7 => intro wq hSw; (go_simp); (try with_reducible rfl)
      try simp only [Act.put, List.setIfInBounds_toArray, List.set_cons_zero, List.set_cons_succ]
      refine wpAnyH_take (i := 5) (oi := ⟨some 81, .nilCheck (.tmp 80), 0, "tape.go:165", #[⟨4, .data⟩], none⟩) (v := ?_) rfl (by kernel_rfl) (by kernel_rfl) (by kernel_rfl) (fun _ _ _ h => h) (Or.inl ⟨by rfl, ?hyr1x5q10⟩) (by assumption) ?restr1x5q10
      case hyr1x5q10 => intro wq hSw; (go_simp); (try with_reducible rfl)
      try simp only [Act.put, List.setIfInBounds_toArray, List.set_cons_zero, List.set_cons_succ]
      refine wpAnyH_take (i := 6) (oi := ⟨some 82, .fieldAddr 57 (.tmp 81) 1, 0, "tape.go:165", #[⟨5, .data⟩], none⟩) (v := ?_) rfl (by kernel_rfl) (by kernel_rfl) (by kernel_rfl) (fun _ _ _ h => h) (Or.inl ⟨by rfl, ?hyr1x6q13⟩) (by assumption) ?restr1x6q13
      case hyr1x6q13 => intro wq hSw; (go_simp); (try with_reducible rfl)
      try simp only [Act.put, List.setIfInBounds_toArray, List.set_cons_zero, List.set_cons_succ]
      refine wpAnyH_ready (rs := [2, 7]) (by kernel_rfl) (by simp) ?_
      refine AllReadyH.cons (o := ⟨some 78, .call { callee := .value (.func 9), args := #[.tmp 77, .const (.int .i64 50)], argTypes := #[25, 3] }, 3, "tape.go:165", #[⟨1, .data⟩], none⟩) rfl (fun K hK => ?_) ?_
      · go_simp
        (refine (next_t 50 _ T (by omega) (by omega)).mono ?_)
        clear T
        rintro e w5 ⟨m, rfl, m0, m1, T, k2⟩
        have mw : IntKind.i64.wrap (1 + m) = 1 + m := IntWalk.i64_in _ (by omega)
        replace own4 := own4.nxb hbw k2
        replace kk := kk.nxb k2
        clear k2
        refine hK.out _ _ (trivial) (fun hHeld => ?_)
        clear hK K
        try simp only [Act.put, List.setIfInBounds_toArray, List.set_cons_zero, List.set_cons_succ]
        refine wpAnyH_take (i := 3) (oi := ⟨some 79, .binOp .add 3 (.const (.int .i64 1)) (.tmp 78) 3, 3, "tape.go:165", #[⟨2, .data⟩], none⟩) (v := ?_) rfl (by kernel_rfl) (by kernel_rfl) (by kernel_rfl) (fun _ _ _ h => h) (Or.inl ⟨by rfl, ?hyr1x3q29⟩) (by assumption) ?restr1x3q29
        case hyr1x3q29 => intro wq hSw; (go_simp); (try with_reducible rfl)
        try simp only [Act.put, List.setIfInBounds_toArray, List.set_cons_zero, List.set_cons_succ]
        refine wpAnyH_ready (rs := [7]) (by kernel_rfl) (by simp) ?_
        refine AllReadyH.cons (o := ⟨some 83, .load 9 (.tmp 82), 9, "tape.go:165", #[⟨6, .data⟩], none⟩) rfl (fun K hK => ?_) AllReadyH.nil
        have e1 : World.cell? _ ⟨g, j * 3 + 1, none⟩ = some (.string y.key) := (own_set1 (sz := 3) (enc := encN) (c := 1) (fun _ => rfl) own4 HY.out (by omega)).1
        go_simp
        clear e1
        refine hK.out _ _ (trivial) (fun hHeld => ?_)
        clear hK K
        try simp only [Act.put, List.setIfInBounds_toArray, List.set_cons_zero, List.set_cons_succ]
        refine wpAnyH_take (i := 8) (oi := ⟨some 84, .build 57 #[(0, .tmp 79), (1, .tmp 83)], 57, "tape.go:165", #[⟨3, .data⟩, ⟨7, .data⟩], none⟩) (v := ?_) rfl (by kernel_rfl) (by kernel_rfl) (by kernel_rfl) (fun _ _ _ h => h) (Or.inl ⟨by rfl, ?hyr1x8q40⟩) (by assumption) ?restr1x8q40
        case hyr1x8q40 => intro wq hSw; (go_simp); (try with_reducible rfl)
        try simp only [Act.put, List.setIfInBounds_toArray, List.set_cons_zero, List.set_cons_succ]
        refine wpAnyH_ready (rs := [9]) (by kernel_rfl) (by simp) ?_
        refine AllReadyH.cons (o := ⟨some 85, .buildSlice 23 1 #[(0, .tmp 84)], 23, "tape.go:165", #[⟨8, .data⟩], none⟩) rfl (fun K hK => ?_) AllReadyH.nil
        have z5 := kk.size
        have SX : Sl 3 encN (w5.alloc (.cells #[.int .i64 (1 + m), .string y.key, .int .u32 0] 57)) (some ⟨w5.heap.size, 0, none⟩) 1 [(⟨1 + m, y.key, 0⟩ : Nd)] := Sl.lit _ rfl rfl (fun _ => rfl) rfl
        go_simp
        have k6 := Ex.new w5 (.cells #[.int .i64 (1 + m), .string y.key, .int .u32 0] 57)
        replace own4 := own4.nx k6
        replace kk := kk.nxb (k6.b b)
        replace T := T.nx k6
        clear k6
        refine hK.out _ _ (trivial) (fun hHeld => ?_)
        clear hK K
        try simp only [Act.put, List.setIfInBounds_toArray, List.set_cons_zero, List.set_cons_succ]
        refine wpAnyH_ready (rs := [10]) (by kernel_rfl) (by simp) ?_
        refine AllReadyH.cons (o := ⟨some 86, .call { callee := .builtin .append, args := #[.tmp 76, .tmp 85], argTypes := #[23, 23] }, 23, "tape.go:165", #[⟨0, .data⟩, ⟨9, .data⟩, ⟨2, .chain⟩], none⟩) rfl (fun K hK => ?_) AllReadyH.nil
        rw [if_pos (by rfl)]
        have z6 := kk.size
        refine wp_append_rd (enc := encN) _ (.tmp 76) (.tmp 85) 23 rfl w.heap.size 57 (.agg #[.int .i64 0, .string ByteArray.empty, .int .u32 0]) 3 32 Tryz.underlying23 Tryz.infoN rfl (by omega) (by omega) _ l own4 rfl _ _ 1 1 [_] SX (fun h => by cases h) (fun _ => rfl) (by simp [encN, Value.oneCell']) rfl (by omega) (by omega) z6 ?_
        intro v9 w9 own9 ch0 ch1
        refine hK.out _ _ (trivial) (fun hHeld => ?_)
        clear hK K
        try simp only [Act.put, List.setIfInBounds_toArray, List.set_cons_zero, List.set_cons_succ]
        refine wpAnyH_take (i := 11) (oi := ⟨some 4, .assign (.tmp 86), 23, "tape.go:165", #[⟨10, .data⟩, ⟨10, .chain⟩, ⟨0, .phase⟩, ⟨1, .phase⟩, ⟨2, .phase⟩, ⟨3, .phase⟩, ⟨4, .phase⟩, ⟨5, .phase⟩, ⟨6, .phase⟩, ⟨7, .phase⟩, ⟨8, .phase⟩, ⟨9, .phase⟩, ⟨10, .phase⟩], none⟩) (v := ?_) rfl (by kernel_rfl) (by kernel_rfl) (by kernel_rfl) (fun _ _ _ h => h) (Or.inl ⟨by rfl, ?hyr1x11q65⟩) (by assumption) ?restr1x11q65
        case hyr1x11q65 => intro wq hSw; (go_simp); (try with_reducible rfl)
        try simp only [Act.put, List.setIfInBounds_toArray, List.set_cons_zero, List.set_cons_succ]
        refine wpAnyH_done (by kernel_rfl) ?_ _
        go_wp2_with fail
        go_ret
        exact ⟨v9, _, rfl, ⟨own9, by simp, ok_snoc OK.out ⟨⟨by show _ ≤ 1 + m; omega, by show 1 + m ≤ _; omega⟩, by show 0 < _; omega, hyok.out.2.2⟩, TP.chg T ch1 (fun x hx => by omega), Chg.trans kk (ch1.mono (fun x hx => hx.1))⟩⟩
      refine AllReadyH.cons (o := ⟨some 83, .load 9 (.tmp 82), 9, "tape.go:165", #[⟨6, .data⟩], none⟩) rfl (fun K hK => ?_) AllReadyH.nil
      · have e1 : World.cell? _ ⟨g, j * 3 + 1, none⟩ = some (.string y.key) := (own_set1 (sz := 3) (enc := encN) (c := 1) (fun _ => rfl) own4 HY.out (by omega)).1
        go_simp
        clear e1
        refine hK.out _ _ (trivial) (fun hHeld => ?_)
        clear hK K
        try simp only [Act.put, List.setIfInBounds_toArray, List.set_cons_zero, List.set_cons_succ]
        refine wpAnyH_ready (rs := [2]) (by kernel_rfl) (by simp) ?_
        refine AllReadyH.cons (o := ⟨some 78, .call { callee := .value (.func 9), args := #[.tmp 77, .const (.int .i64 50)], argTypes := #[25, 3] }, 3, "tape.go:165", #[⟨1, .data⟩], none⟩) rfl (fun K hK => ?_) AllReadyH.nil
        go_simp
        (refine (next_t 50 _ T (by omega) (by omega)).mono ?_)
        clear T
        rintro e w5 ⟨m, rfl, m0, m1, T, k2⟩
        have mw : IntKind.i64.wrap (1 + m) = 1 + m := IntWalk.i64_in _ (by omega)
        replace own4 := own4.nxb hbw k2
        replace kk := kk.nxb k2
        clear k2
        refine hK.out _ _ (trivial) (fun hHeld => ?_)
        clear hK K
        try simp only [Act.put, List.setIfInBounds_toArray, List.set_cons_zero, List.set_cons_succ]
        refine wpAnyH_take (i := 3) (oi := ⟨some 79, .binOp .add 3 (.const (.int .i64 1)) (.tmp 78) 3, 3, "tape.go:165", #[⟨2, .data⟩], none⟩) (v := ?_) rfl (by kernel_rfl) (by kernel_rfl) (by kernel_rfl) (fun _ _ _ h => h) (Or.inl ⟨by rfl, ?hyr1x3q90⟩) (by assumption) ?restr1x3q90
        case hyr1x3q90 => intro wq hSw; (go_simp); (try with_reducible rfl)
        try simp only [Act.put, List.setIfInBounds_toArray, List.set_cons_zero, List.set_cons_succ]
        refine wpAnyH_take (i := 8) (oi := ⟨some 84, .build 57 #[(0, .tmp 79), (1, .tmp 83)], 57, "tape.go:165", #[⟨3, .data⟩, ⟨7, .data⟩], none⟩) (v := ?_) rfl (by kernel_rfl) (by kernel_rfl) (by kernel_rfl) (fun _ _ _ h => h) (Or.inl ⟨by rfl, ?hyr1x8q93⟩) (by assumption) ?restr1x8q93
        case hyr1x8q93 => intro wq hSw; (go_simp); (try with_reducible rfl)
        try simp only [Act.put, List.setIfInBounds_toArray, List.set_cons_zero, List.set_cons_succ]
        refine wpAnyH_ready (rs := [9]) (by kernel_rfl) (by simp) ?_
        refine AllReadyH.cons (o := ⟨some 85, .buildSlice 23 1 #[(0, .tmp 84)], 23, "tape.go:165", #[⟨8, .data⟩], none⟩) rfl (fun K hK => ?_) AllReadyH.nil
        have z5 := kk.size
        have SX : Sl 3 encN (w5.alloc (.cells #[.int .i64 (1 + m), .string y.key, .int .u32 0] 57)) (some ⟨w5.heap.size, 0, none⟩) 1 [(⟨1 + m, y.key, 0⟩ : Nd)] := Sl.lit _ rfl rfl (fun _ => rfl) rfl
        go_simp
        have k6 := Ex.new w5 (.cells #[.int .i64 (1 + m), .string y.key, .int .u32 0] 57)
        replace own4 := own4.nx k6
        replace kk := kk.nxb (k6.b b)
        replace T := T.nx k6
        clear k6
        refine hK.out _ _ (trivial) (fun hHeld => ?_)
        clear hK K
        try simp only [Act.put, List.setIfInBounds_toArray, List.set_cons_zero, List.set_cons_succ]
        refine wpAnyH_ready (rs := [10]) (by kernel_rfl) (by simp) ?_
        refine AllReadyH.cons (o := ⟨some 86, .call { callee := .builtin .append, args := #[.tmp 76, .tmp 85], argTypes := #[23, 23] }, 23, "tape.go:165", #[⟨0, .data⟩, ⟨9, .data⟩, ⟨2, .chain⟩], none⟩) rfl (fun K hK => ?_) AllReadyH.nil
        rw [if_pos (by rfl)]
        have z6 := kk.size
        refine wp_append_rd (enc := encN) _ (.tmp 76) (.tmp 85) 23 rfl w.heap.size 57 (.agg #[.int .i64 0, .string ByteArray.empty, .int .u32 0]) 3 32 Tryz.underlying23 Tryz.infoN rfl (by omega) (by omega) _ l own4 rfl _ _ 1 1 [_] SX (fun h => by cases h) (fun _ => rfl) (by simp [encN, Value.oneCell']) rfl (by omega) (by omega) z6 ?_
        intro v9 w9 own9 ch0 ch1
        refine hK.out _ _ (trivial) (fun hHeld => ?_)
        clear hK K
        try simp only [Act.put, List.setIfInBounds_toArray, List.set_cons_zero, List.set_cons_succ]
        refine wpAnyH_take (i := 11) (oi := ⟨some 4, .assign (.tmp 86), 23, "tape.go:165", #[⟨10, .data⟩, ⟨10, .chain⟩, ⟨0, .phase⟩, ⟨1, .phase⟩, ⟨2, .phase⟩, ⟨3, .phase⟩, ⟨4, .phase⟩, ⟨5, .phase⟩, ⟨6, .phase⟩, ⟨7, .phase⟩, ⟨8, .phase⟩, ⟨9, .phase⟩, ⟨10, .phase⟩], none⟩) (v := ?_) rfl (by kernel_rfl) (by kernel_rfl) (by kernel_rfl) (fun _ _ _ h => h) (Or.inl ⟨by rfl, ?hyr1x11q118⟩) (by assumption) ?restr1x11q118
        case hyr1x11q118 => intro wq hSw; (go_simp); (try with_reducible rfl)
        try simp only [Act.put, List.setIfInBounds_toArray, List.set_cons_zero, List.set_cons_succ]
        refine wpAnyH_done (by kernel_rfl) ?_ _
        go_wp2_with fail
        go_ret
        exact ⟨v9, _, rfl, ⟨own9, by simp, ok_snoc OK.out ⟨⟨by show _ ≤ 1 + m; omega, by show 1 + m ≤ _; omega⟩, by show 0 < _; omega, hyok.out.2.2⟩, TP.chg T ch1 (fun x hx => by omega), Chg.trans kk (ch1.mono (fun x hx => hx.1))⟩⟩
    · go_wp2_with fail
      have own4 : OwnL 3 encN 57 w.heap.size w3.drew (.slice (some ⟨g, 0, none⟩) l.length c1) l := own3.nxb hbw (Exb.refl b w3).drew
      have T : TK w3.drew b := T
      have kk := kk.drew
      have hL := hL.nxb hgb (Exb.refl b w3).drew
      clear own3
      refine wp_region_held_drew (S := fun _ => True) (by kernel_rfl) (trivial) (fun hHeld => ?_)
      refine wpAnyH_take (i := 0) (oi := ⟨some 32, .move (.tmp 1), 23, "tape.go:167", #[], none⟩) (v := ?_) rfl (by kernel_rfl) (by kernel_rfl) (by kernel_rfl) (fun _ _ _ h => h) (Or.inl ⟨by rfl, ?hyr2x0q1⟩) (by assumption) ?restr2x0q1
      case hyr2x0q1 => intro wq hSw; (go_simp); (try with_reducible rfl)
      try simp only [Act.put, List.setIfInBounds_toArray, List.set_cons_zero, List.set_cons_succ]
      refine wpAnyH_take (i := 1) (oi := ⟨some 33, .move (.tmp 5), 60, "tape.go:167", #[], none⟩) (v := ?_) rfl (by kernel_rfl) (by kernel_rfl) (by kernel_rfl) (fun _ _ _ h => h) (Or.inl ⟨by rfl, ?hyr2x1q4⟩) (by assumption) ?restr2x1q4
      case hyr2x1q4 => intro wq hSw; (go_simp); (try with_reducible rfl)
      try simp only [Act.put, List.setIfInBounds_toArray, List.set_cons_zero, List.set_cons_succ]
      refine wpAnyH_take (i := 2) (oi := ⟨some 34, .nilCheck (.tmp 33), 0, "tape.go:167", #[⟨1, .data⟩], none⟩) (v := ?_) rfl (by kernel_rfl) (by kernel_rfl) (by kernel_rfl) (fun _ _ _ h => h) (Or.inl ⟨by rfl, ?hyr2x2q7⟩) (by assumption) ?restr2x2q7
      case hyr2x2q7 => intro wq hSw; (go_simp); (try with_reducible rfl)
      try simp only [Act.put, List.setIfInBounds_toArray, List.set_cons_zero, List.set_cons_succ]
      refine wpAnyH_take (i := 3) (oi := ⟨some 35, .fieldAddr 57 (.tmp 34) 0, 0, "tape.go:167", #[⟨2, .data⟩], none⟩) (v := ?_) rfl (by kernel_rfl) (by kernel_rfl) (by kernel_rfl) (fun _ _ _ h => h) (Or.inl ⟨by rfl, ?hyr2x3q10⟩) (by assumption) ?restr2x3q10
      case hyr2x3q10 => intro wq hSw; (go_simp); (try with_reducible rfl)
      try simp only [Act.put, List.setIfInBounds_toArray, List.set_cons_zero, List.set_cons_succ]
      refine wpAnyH_take (i := 5) (oi := ⟨some 37, .move (.tmp 0), 25, "tape.go:167", #[], none⟩) (v := ?_) rfl (by kernel_rfl) (by kernel_rfl) (by kernel_rfl) (fun _ _ _ h => h) (Or.inl ⟨by rfl, ?hyr2x5q13⟩) (by assumption) ?restr2x5q13
      case hyr2x5q13 => intro wq hSw; (go_simp); (try with_reducible rfl)
      try simp only [Act.put, List.setIfInBounds_toArray, List.set_cons_zero, List.set_cons_succ]
      refine wpAnyH_ready (rs := [4, 6]) (by kernel_rfl) (by simp) ?_
      refine AllReadyH.cons (o := ⟨some 36, .load 3 (.tmp 35), 3, "tape.go:167", #[⟨3, .data⟩], none⟩) rfl (fun K hK => ?_) ?_
      · have e1 : World.cell? _ ⟨g, j * 3, none⟩ = some (.int .i64 y.id) := (own_set1 (sz := 3) (enc := encN) (c := 0) (fun _ => rfl) own4 HY.out (by omega)).1
        go_simp
        clear e1
        refine hK.out _ _ (trivial) (fun hHeld => ?_)
        clear hK K
        try simp only [Act.put, List.setIfInBounds_toArray, List.set_cons_zero, List.set_cons_succ]
        refine wpAnyH_ready (rs := [6]) (by kernel_rfl) (by simp) ?_
        refine AllReadyH.cons (o := ⟨some 38, .call { callee := .value (.func 28), args := #[.tmp 37], argTypes := #[25] }, 9, "tape.go:167", #[⟨5, .data⟩], none⟩) rfl (fun K hK => ?_) AllReadyH.nil
        go_simp
        (refine (key_t _ T hL hgb).mono ?_)
        clear T hL
        rintro e w5 ⟨s, rfl, hsz, T, k2⟩
        replace own4 := own4.nxb hbw k2
        replace kk := kk.nxb k2
        clear k2
        refine hK.out _ _ (trivial) (fun hHeld => ?_)
        clear hK K
        try simp only [Act.put, List.setIfInBounds_toArray, List.set_cons_zero, List.set_cons_succ]
        refine wpAnyH_take (i := 7) (oi := ⟨some 39, .build 57 #[(0, .tmp 36), (1, .tmp 38)], 57, "tape.go:167", #[⟨4, .data⟩, ⟨6, .data⟩], none⟩) (v := ?_) rfl (by kernel_rfl) (by kernel_rfl) (by kernel_rfl) (fun _ _ _ h => h) (Or.inl ⟨by rfl, ?hyr2x7q36⟩) (by assumption) ?restr2x7q36
        case hyr2x7q36 => intro wq hSw; (go_simp); (try with_reducible rfl)
        try simp only [Act.put, List.setIfInBounds_toArray, List.set_cons_zero, List.set_cons_succ]
        refine wpAnyH_ready (rs := [8]) (by kernel_rfl) (by simp) ?_
        refine AllReadyH.cons (o := ⟨some 40, .buildSlice 23 1 #[(0, .tmp 39)], 23, "tape.go:167", #[⟨7, .data⟩], none⟩) rfl (fun K hK => ?_) AllReadyH.nil
        have z5 := kk.size
        have SX : Sl 3 encN (w5.alloc (.cells #[.int .i64 y.id, .string s, .int .u32 0] 57)) (some ⟨w5.heap.size, 0, none⟩) 1 [(⟨y.id, s, 0⟩ : Nd)] := Sl.lit _ rfl rfl (fun _ => rfl) rfl
        go_simp
        have k6 := Ex.new w5 (.cells #[.int .i64 y.id, .string s, .int .u32 0] 57)
        replace own4 := own4.nx k6
        replace kk := kk.nxb (k6.b b)
        replace T := T.nx k6
        clear k6
        refine hK.out _ _ (trivial) (fun hHeld => ?_)
        clear hK K
        try simp only [Act.put, List.setIfInBounds_toArray, List.set_cons_zero, List.set_cons_succ]
        refine wpAnyH_ready (rs := [9]) (by kernel_rfl) (by simp) ?_
        refine AllReadyH.cons (o := ⟨some 41, .call { callee := .builtin .append, args := #[.tmp 32, .tmp 40], argTypes := #[23, 23] }, 23, "tape.go:167", #[⟨0, .data⟩, ⟨8, .data⟩, ⟨6, .chain⟩], none⟩) rfl (fun K hK => ?_) AllReadyH.nil
        rw [if_pos (by rfl)]
        have z6 := kk.size
        refine wp_append_rd (enc := encN) _ (.tmp 32) (.tmp 40) 23 rfl w.heap.size 57 (.agg #[.int .i64 0, .string ByteArray.empty, .int .u32 0]) 3 32 Tryz.underlying23 Tryz.infoN rfl (by omega) (by omega) _ l own4 rfl _ _ 1 1 [_] SX (fun h => by cases h) (fun _ => rfl) (by simp [encN, Value.oneCell']) rfl (by omega) (by omega) z6 ?_
        intro v9 w9 own9 ch0 ch1
        refine hK.out _ _ (trivial) (fun hHeld => ?_)
        clear hK K
        try simp only [Act.put, List.setIfInBounds_toArray, List.set_cons_zero, List.set_cons_succ]
        refine wpAnyH_take (i := 10) (oi := ⟨some 4, .assign (.tmp 41), 23, "tape.go:167", #[⟨9, .data⟩, ⟨9, .chain⟩, ⟨0, .phase⟩, ⟨1, .phase⟩, ⟨2, .phase⟩, ⟨3, .phase⟩, ⟨4, .phase⟩, ⟨5, .phase⟩, ⟨6, .phase⟩, ⟨7, .phase⟩, ⟨8, .phase⟩, ⟨9, .phase⟩], none⟩) (v := ?_) rfl (by kernel_rfl) (by kernel_rfl) (by kernel_rfl) (fun _ _ _ h => h) (Or.inl ⟨by rfl, ?hyr2x10q61⟩) (by assumption) ?restr2x10q61
        case hyr2x10q61 => intro wq hSw; (go_simp); (try with_reducible rfl)
        try simp only [Act.put, List.setIfInBounds_toArray, List.set_cons_zero, List.set_cons_succ]
        refine wpAnyH_done (by kernel_rfl) ?_ _
        go_wp2_with fail
        go_ret
        exact ⟨v9, _, rfl, ⟨own9, by simp, ok_snoc OK.out ⟨hyok.out.1, by show 0 < _; omega, by show s.size ≤ _; omega⟩, TP.chg T ch1 (fun x hx => by omega), Chg.trans kk (ch1.mono (fun x hx => hx.1))⟩⟩
      refine AllReadyH.cons (o := ⟨some 38, .call { callee := .value (.func 28), args := #[.tmp 37], argTypes := #[25] }, 9, "tape.go:167", #[⟨5, .data⟩], none⟩) rfl (fun K hK => ?_) AllReadyH.nil
      · go_simp
        (refine (key_t _ T hL hgb).mono ?_)
        clear T hL
        rintro e w5 ⟨s, rfl, hsz, T, k2⟩
        replace own4 := own4.nxb hbw k2
        replace kk := kk.nxb k2
        clear k2
        refine hK.out _ _ (trivial) (fun hHeld => ?_)
        clear hK K
        try simp only [Act.put, List.setIfInBounds_toArray, List.set_cons_zero, List.set_cons_succ]
        refine wpAnyH_ready (rs := [4]) (by kernel_rfl) (by simp) ?_
        refine AllReadyH.cons (o := ⟨some 36, .load 3 (.tmp 35), 3, "tape.go:167", #[⟨3, .data⟩], none⟩) rfl (fun K hK => ?_) AllReadyH.nil
        have e1 : World.cell? _ ⟨g, j * 3, none⟩ = some (.int .i64 y.id) := (own_set1 (sz := 3) (enc := encN) (c := 0) (fun _ => rfl) own4 HY.out (by omega)).1
        go_simp
        clear e1
        refine hK.out _ _ (trivial) (fun hHeld => ?_)
        clear hK K
        try simp only [Act.put, List.setIfInBounds_toArray, List.set_cons_zero, List.set_cons_succ]
        refine wpAnyH_take (i := 7) (oi := ⟨some 39, .build 57 #[(0, .tmp 36), (1, .tmp 38)], 57, "tape.go:167", #[⟨4, .data⟩, ⟨6, .data⟩], none⟩) (v := ?_) rfl (by kernel_rfl) (by kernel_rfl) (by kernel_rfl) (fun _ _ _ h => h) (Or.inl ⟨by rfl, ?hyr2x7q85⟩) (by assumption) ?restr2x7q85
        case hyr2x7q85 => intro wq hSw; (go_simp); (try with_reducible rfl)
        try simp only [Act.put, List.setIfInBounds_toArray, List.set_cons_zero, List.set_cons_succ]
        refine wpAnyH_ready (rs := [8]) (by kernel_rfl) (by simp) ?_
        refine AllReadyH.cons (o := ⟨some 40, .buildSlice 23 1 #[(0, .tmp 39)], 23, "tape.go:167", #[⟨7, .data⟩], none⟩) rfl (fun K hK => ?_) AllReadyH.nil
        have z5 := kk.size
        have SX : Sl 3 encN (w5.alloc (.cells #[.int .i64 y.id, .string s, .int .u32 0] 57)) (some ⟨w5.heap.size, 0, none⟩) 1 [(⟨y.id, s, 0⟩ : Nd)] := Sl.lit _ rfl rfl (fun _ => rfl) rfl
        go_simp
        have k6 := Ex.new w5 (.cells #[.int .i64 y.id, .string s, .int .u32 0] 57)
        replace own4 := own4.nx k6
        replace kk := kk.nxb (k6.b b)
        replace T := T.nx k6
        clear k6
        refine hK.out _ _ (trivial) (fun hHeld => ?_)
        clear hK K
        try simp only [Act.put, List.setIfInBounds_toArray, List.set_cons_zero, List.set_cons_succ]
        refine wpAnyH_ready (rs := [9]) (by kernel_rfl) (by simp) ?_
        refine AllReadyH.cons (o := ⟨some 41, .call { callee := .builtin .append, args := #[.tmp 32, .tmp 40], argTypes := #[23, 23] }, 23, "tape.go:167", #[⟨0, .data⟩, ⟨8, .data⟩, ⟨6, .chain⟩], none⟩) rfl (fun K hK => ?_) AllReadyH.nil
        rw [if_pos (by rfl)]
        have z6 := kk.size
        refine wp_append_rd (enc := encN) _ (.tmp 32) (.tmp 40) 23 rfl w.heap.size 57 (.agg #[.int .i64 0, .string ByteArray.empty, .int .u32 0]) 3 32 Tryz.underlying23 Tryz.infoN rfl (by omega) (by omega) _ l own4 rfl _ _ 1 1 [_] SX (fun h => by cases h) (fun _ => rfl) (by simp [encN, Value.oneCell']) rfl (by omega) (by omega) z6 ?_
        intro v9 w9 own9 ch0 ch1
        refine hK.out _ _ (trivial) (fun hHeld => ?_)
        clear hK K
        try simp only [Act.put, List.setIfInBounds_toArray, List.set_cons_zero, List.set_cons_succ]
        refine wpAnyH_take (i := 10) (oi := ⟨some 4, .assign (.tmp 41), 23, "tape.go:167", #[⟨9, .data⟩, ⟨9, .chain⟩, ⟨0, .phase⟩, ⟨1, .phase⟩, ⟨2, .phase⟩, ⟨3, .phase⟩, ⟨4, .phase⟩, ⟨5, .phase⟩, ⟨6, .phase⟩, ⟨7, .phase⟩, ⟨8, .phase⟩, ⟨9, .phase⟩], none⟩) (v := ?_) rfl (by kernel_rfl) (by kernel_rfl) (by kernel_rfl) (fun _ _ _ h => h) (Or.inl ⟨by rfl, ?hyr2x10q110⟩) (by assumption) ?restr2x10q110
        case hyr2x10q110 => intro wq hSw; (go_simp); (try with_reducible rfl)
        try simp only [Act.put, List.setIfInBounds_toArray, List.set_cons_zero, List.set_cons_succ]
        refine wpAnyH_done (by kernel_rfl) ?_ _
        go_wp2_with fail
        go_ret
        exact ⟨v9, _, rfl, ⟨own9, by simp, ok_snoc OK.out ⟨hyok.out.1, by show 0 < _; omega, by show s.size ≤ _; omega⟩, TP.chg T ch1 (fun x hx => by omega), Chg.trans kk (ch1.mono (fun x hx => hx.1))⟩⟩
end Go.Proofs.YtbnbjiddffihoaaGreatDoor

/- The memory of Build of the package ideal: rows of links that are written link by link. -/
namespace Go.Proofs.YtbnbjiddffihoaaGreatDoor
open Go.RowKit

def InQ (qs : List (Int × Hdr)) (k : Nat) : Prop := ∃ (j : Nat) (r : Int × Hdr), qs[j]? = some r ∧ r.2.val.ownBlock = some k
def Exq (qs : List (Int × Hdr)) (w w' : World) : Prop := Chg (fun k => k < w.heap.size ∧ ¬ InQ qs k) w w'
theorem Exq.refl (qs : List (Int × Hdr)) (w : World) : Exq qs w w := Chg.refl _ w
theorem Exq.size {qs : List (Int × Hdr)} {w w' : World} (k : Exq qs w w') : w.heap.size ≤ w'.heap.size := Chg.size k
theorem Exq.nx {qs : List (Int × Hdr)} {w w1 w2 : World} (h : Exq qs w w1) (k : Ex w1 w2) : Exq qs w w2 := Chg.trans h (Chg.mono k (fun _ hk => Nat.lt_of_lt_of_le hk.1 h.size))
theorem Exq.set {qs : List (Int × Hdr)} {w w' : World} (h : Exq qs w w') {p : Addr} (v : Value) (hp : InQ qs p.block) : Exq qs w (w'.setCell p v) := Chg.setCell h v (fun k hk he => hk.2 (he ▸ hp))
def ILt (T : Nat → Prop) (w : World) (a : Option Addr) (n : Nat) (M : List (List Int)) : Prop :=
  ∃ hs : List (Unit × Hdr), Rd 1 (encP enc0) T w a n hs ∧ M.length = n ∧ ∀ (j : Nat) (q : Unit × Hdr) (c : List Int), hs[j]? = some q → M[j]? = some c → Rd 1 encI T w q.2.1 q.2.2.1 c
theorem ILt.chg {T : Nat → Prop} {w w' : World} {a : Option Addr} {n : Nat} {M : List (List Int)} (h : ILt T w a n M) (k : Chg T w w') : ILt T w' a n M := by
  obtain ⟨hs, h1, h2, h3⟩ := h
  exact ⟨hs, Rd.chg h1 k (fun _ x => x), h2, fun j q c hq hc => Rd.chg (h3 j q c hq hc) k (fun _ x => x)⟩
theorem ILt.at {T : Nat → Prop} {w : World} {a : Option Addr} {n : Nat} {M : List (List Int)} (h : ILt T w a n M) {j : Nat} (hj : j < n) :
    ∃ x o a' n' c' c, a = some ⟨x, o, none⟩ ∧ T x ∧ M[j]? = some c ∧ w.cell? ⟨x, o + j, none⟩ = some (.slice a' n' c') ∧ Rd 1 encI T w a' n' c := by
  obtain ⟨hs, h1, h2, h3⟩ := h
  obtain ⟨x, o, q, e, hx, hq, hc⟩ := Rd.at h1 hj
  obtain ⟨c, hcc⟩ : ∃ c, M[j]? = some c := ⟨M[j]'(by omega), by simp⟩
  refine ⟨x, o, q.2.1, q.2.2.1, q.2.2.2, c, e, hx, hcc, ?_, h3 j q c hq hcc⟩
  have := hc 0 _ rfl
  rw [Nat.mul_one, Nat.add_zero] at this
  exact this
end Go.Proofs.YtbnbjiddffihoaaGreatDoor

/- Build of the package ideal. -/
namespace Go.Proofs.YtbnbjiddffihoaaGreatDoor
open Go.RowKit

end Go.Proofs.YtbnbjiddffihoaaGreatDoor

/- What Build of the package ideal lays is what the reference says. -/
namespace Go.Proofs.YtbnbjiddffihoaaGreatDoor
open Go.RowKit

theorem find_in {S : List Nd} (h : checkN S = 0) {x : Nd} (hx : x ∈ S) : findN S x.id = (x, true) := by
  have h2 : (findN S x.id).2 = true := by
    unfold findN
    cases e : S.find? (fun y => y.id == x.id) with
    | none => have := List.find?_eq_none.1 e x hx; simp at this
    | some y => rfl
  obtain ⟨h3, h4⟩ := findN_mem h2
  have h5 := ids_eq (check_keys h) h3 hx h4
  exact Prod.ext h5 h2
end Go.Proofs.YtbnbjiddffihoaaGreatDoor

/- What the statements on the unique skip graph say, in plain Lean. -/
namespace Go.Proofs.YtbnbjiddffihoaaGreatDoor
open Go.RowKit

theorem check_id {l : List Nd} (h : checkN l = 0) {x : Nd} (hx : x ∈ l) : 1 ≤ x.id := by
  unfold checkN at h
  split at h
  · omega
  · split at h
    · omega
    · rename_i hb
      have hb : badN x = false := by
        cases hy2 : badN x with
        | false => rfl
        | true => exact absurd (List.any_eq_true.2 ⟨x, hx, hy2⟩) hb
      unfold badN at hb
      simp only [Bool.or_eq_false_iff, decide_eq_false_iff_not] at hb
      omega
def lastI (A : List Nd) : Int := (A.getLast?.getD Nd.zero).id
def headI (B : List Nd) : Int := (B.head?.getD Nd.zero).id
def grpS (l : List Nd) (h : Int) (v : Nat) : List Nd := groupN (sortN l) h v
theorem grp_eq {l : List Nd} {h : Int} {u v : Nat} (hw : ∀ x ∈ l, x.word < 4294967296) (hu : u < 4294967296) (hv : v < 4294967296) (hs : sameN u v h = true) : grpS l h u = grpS l h v := by
  unfold grpS groupN
  apply List.filter_congr
  intro y hy
  have hy := hw y ((sortN_mem l y).1 hy)
  rw [Bool.eq_iff_iff]
  exact ⟨fun h => sameN_trans hy hu hv h hs, fun h => sameN_trans hy hv hu h (sameN_symm hs)⟩
theorem grp_mem {l : List Nd} {h : Int} {v : Nat} {y : Nd} : y ∈ grpS l h v ↔ y ∈ l ∧ sameN y.word v h = true := by
  unfold grpS groupN
  rw [List.mem_filter, sortN_mem]
theorem neigh_split {l : List Nd} (h0 : checkN l = 0) {x : Nd} (hx : x ∈ l) {h : Int} (hl : lvlN h = true) {A B : List Nd} (e : grpS l h x.word = A ++ x :: B) : neighN l x.id h = ((lastI A, headI B), true) := by
  have hf := find_in h0 hx
  obtain ⟨i, hi, _, hn⟩ := neighN_yes (l := l) (id := x.id) (h := h) h0 (by rw [hf]) hl
  have hG : thrG l x.id h = A ++ x :: B := by unfold thrG; rw [hf]; exact e
  have hA : AscS (thrG l x.id h) := asc_group (sortN_str h0) h _
  rw [hf] at hi
  rw [hG] at hi hn hA
  have h1 := idxI_at hA hi
  have h2 := idxI_at hA (i := A.length) (x := x) (by simp)
  have hi : i = A.length := by simp only at h1; omega
  subst hi
  rw [hn]
  congr 2
  · unfold leftN lastI
    by_cases ha : A.length = 0
    · rw [if_pos ha, List.length_eq_zero_iff.1 ha]; rfl
    · rw [if_neg ha, List.getElem?_append_left (by omega), List.getLast?_eq_getElem?]
  · unfold rightN headI
    rw [List.getElem?_append_right (by omega), show A.length + 1 - A.length = 1 by omega, List.getElem?_cons_succ, List.head?_eq_getElem?]
theorem grp_asc {l : List Nd} (h0 : checkN l = 0) (h : Int) (v : Nat) : AscS (grpS l h v) := asc_group (sortN_str h0) h v
theorem find_zero {l : List Nd} (h0 : checkN l = 0) : findN l 0 = (Nd.zero, false) :=
  findN_none fun j z _ hz => by have := check_id h0 (List.mem_of_getElem? hz); omega
end Go.Proofs.YtbnbjiddffihoaaGreatDoor

/- Sorting by introductions, in plain Lean: numbers 0 .. n - 1 stand for the nodes in ascending order, K t p q says that p refers to q before round t. -/
namespace Go.Proofs.YtbnbjiddffihoaaGreatDoor

namespace Lin
inductive Path (M : Nat → Nat → Prop) (lo hi : Nat) : Nat → Nat → Prop
  | refl {a : Nat} : lo ≤ a → a ≤ hi → Path M lo hi a a
  | step {a c b : Nat} : lo ≤ a → a ≤ hi → M a c → Path M lo hi c b → Path M lo hi a b
theorem Path.head {M : Nat → Nat → Prop} {lo hi a b : Nat} (h : Path M lo hi a b) : lo ≤ a ∧ a ≤ hi := by cases h <;> exact ⟨by assumption, by assumption⟩
theorem Path.trans {M : Nat → Nat → Prop} {lo hi a b c : Nat} (h : Path M lo hi a b) (k : Path M lo hi b c) : Path M lo hi a c := by
  induction h with
  | refl _ _ => exact k
  | step h1 h2 h3 _ ih => exact .step h1 h2 h3 (ih k)
theorem Path.mono {M M' : Nat → Nat → Prop} {lo hi lo' hi' a b : Nat} (h : Path M lo hi a b) (hm : ∀ x y, M x y → M' x y) (h1 : lo' ≤ lo) (h2 : hi ≤ hi') : Path M' lo' hi' a b := by
  induction h with
  | refl g1 g2 => exact .refl (by omega) (by omega)
  | step g1 g2 g3 _ ih => exact .step (by omega) (by omega) (hm _ _ g3) ih
theorem Path.one {M : Nat → Nat → Prop} {lo hi a b : Nat} (h1 : lo ≤ a) (h2 : a ≤ hi) (h3 : lo ≤ b) (h4 : b ≤ hi) (h : M a b) : Path M lo hi a b := .step h1 h2 h (.refl h3 h4)
theorem Path.symm {M : Nat → Nat → Prop} (hs : ∀ x y, M x y → M y x) {lo hi a b : Nat} (h : Path M lo hi a b) : Path M lo hi b a := by
  induction h with
  | refl g1 g2 => exact .refl g1 g2
  | step g1 g2 g3 k ih => exact ih.trans (.one k.head.1 k.head.2 g1 g2 (hs _ _ g3))

def Row (K : Nat → Nat → Prop) (p x : Nat) : Prop := x = p ∨ K p x
def Adj (K : Nat → Nat → Prop) (p x y : Nat) : Prop := Row K p x ∧ Row K p y ∧ x < y ∧ ∀ r, Row K p r → ¬ (x < r ∧ r < y)
def Sym (K : Nat → Nat → Prop) (x y : Nat) : Prop := K x y ∧ K y x
theorem Sym.symm {K : Nat → Nat → Prop} {x y : Nat} (h : Sym K x y) : Sym K y x := ⟨h.2, h.1⟩
def Rnd (K K' : Nat → Nat → Prop) : Prop := ∀ p x y, Adj K p x y → Sym K' x y

section
variable {K K' : Nat → Nat → Prop}
theorem chain (hR : Rnd K K') (p : Nat) : ∀ (d x y : Nat), y - x ≤ d → Row K p x → Row K p y → x < y → Path (Sym K') x y x y := by
  intro d
  induction d with
  | zero => intro x y h _ _ hl; omega
  | succ d ih =>
    intro x y h hx hy hl
    by_cases hb : ∃ r, Row K p r ∧ x < r ∧ r < y
    · obtain ⟨r, hr, h1, h2⟩ := hb
      have p1 := ih x r (by omega) hx hr h1
      have p2 := ih r y (by omega) hr hy h2
      exact (p1.mono (fun _ _ h => h) (by omega) (by omega)).trans (p2.mono (fun _ _ h => h) (by omega) (by omega))
    · exact .one (by omega) (by omega) (by omega) (by omega) (hR p x y ⟨hx, hy, hl, fun r hr hh => hb ⟨r, hr, hh⟩⟩)
theorem joined (hR : Rnd K K') {p x y lo hi : Nat} (hx : Row K p x) (hy : Row K p y) (h1 : lo ≤ x) (h2 : x ≤ hi) (h3 : lo ≤ y) (h4 : y ≤ hi) : Path (Sym K') lo hi x y := by
  rcases Nat.lt_trichotomy x y with h | h | h
  · exact (chain hR p _ x y (Nat.le_refl _) hx hy h).mono (fun _ _ h => h) h1 h4
  · subst h; exact .refl h1 h2
  · exact ((chain hR p _ y x (Nat.le_refl _) hy hx h).mono (fun _ _ h => h) h3 h2).symm (fun _ _ h => h.symm)
theorem edge (hR : Rnd K K') {a c lo hi : Nat} (h : K a c ∨ K c a) (h1 : lo ≤ a) (h2 : a ≤ hi) (h3 : lo ≤ c) (h4 : c ≤ hi) : Path (Sym K') lo hi a c := by
  rcases h with h | h
  · exact joined hR (p := a) (.inl rfl) (.inr h) h1 h2 h3 h4
  · exact joined hR (p := c) (.inr h) (.inl rfl) h1 h2 h3 h4
theorem keep (hR : Rnd K K') {lo hi a b : Nat} (h : Path (fun x y => K x y ∨ K y x) lo hi a b) : Path (Sym K') lo hi a b := by
  induction h with
  | refl g1 g2 => exact .refl g1 g2
  | step g1 g2 g3 k ih => exact (edge hR g3 g1 g2 k.head.1 k.head.2).trans ih
theorem lower (hR : Rnd K K') (hirr : ∀ x, ¬ K x x) {lo hi a b : Nat} (h : Path (Sym K) lo (hi + 1) a b) (hb : b ≤ hi) :
    (a ≤ hi → Path (Sym K') lo hi a b) ∧ (a = hi + 1 → ∀ e, K (hi + 1) e → lo ≤ e → e ≤ hi → Path (Sym K') lo hi e b) := by
  induction h with
  | refl g1 g2 => exact ⟨fun h => .refl g1 h, fun h => by omega⟩
  | step g1 g2 g3 k ih =>
    rename_i a c b
    obtain ⟨i1, i2⟩ := ih hb
    refine ⟨fun ha => ?_, fun ha e he h1 h2 => ?_⟩
    · by_cases hc : c ≤ hi
      · exact (edge hR (.inl g3.1) g1 ha k.head.1 hc).trans (i1 hc)
      · have hc : c = hi + 1 := by have := k.head.2; omega
        subst hc
        exact i2 rfl a g3.2 g1 ha
    · subst ha
      have hc : c ≤ hi := by
        have := k.head.2
        rcases Nat.lt_or_ge c (hi + 1) with h | h
        · omega
        · have : c = hi + 1 := by omega
          subst this
          exact absurd g3.1 (hirr _)
      exact (joined hR (p := hi + 1) (.inr he) (.inr g3.1) h1 h2 k.head.1 hc).trans (i1 hc)
theorem raise (hR : Rnd K K') (hirr : ∀ x, ¬ K x x) {lo hi a b : Nat} (h : Path (Sym K) lo hi a b) (hb : lo + 1 ≤ b) :
    (lo + 1 ≤ a → Path (Sym K') (lo + 1) hi a b) ∧ (a = lo → ∀ e, K lo e → lo + 1 ≤ e → e ≤ hi → Path (Sym K') (lo + 1) hi e b) := by
  induction h with
  | refl g1 g2 => exact ⟨fun h => .refl h g2, fun h => by omega⟩
  | step g1 g2 g3 k ih =>
    rename_i a c b
    obtain ⟨i1, i2⟩ := ih hb
    refine ⟨fun ha => ?_, fun ha e he h1 h2 => ?_⟩
    · by_cases hc : lo + 1 ≤ c
      · exact (edge hR (.inl g3.1) ha g2 hc k.head.2).trans (i1 hc)
      · have hc : c = lo := by have := k.head.1; omega
        subst hc
        exact i2 rfl a g3.2 ha g2
    · subst ha
      have hc : a + 1 ≤ c := by
        have := k.head.1
        rcases Nat.lt_or_ge a c with h | h
        · exact h
        · have : c = a := by omega
          subst this
          exact absurd g3.1 (hirr _)
      exact (joined hR (p := a) (.inr he) (.inr g3.1) h1 h2 hc k.head.2).trans (i1 hc)
end
theorem pair {M : Nat → Nat → Prop} {i b : Nat} (h : Path M i (i + 1) i b) (hb : b = i + 1) (hirr : ∀ x, ¬ M x x) : M i (i + 1) := by
  have gen : ∀ a b, Path M i (i + 1) a b → a = i → b = i + 1 → M i (i + 1) := by
    intro a b h
    induction h with
    | refl _ _ => intro h1 h2; omega
    | step g1 g2 g3 k ih =>
      rename_i a c b
      intro h1 h2
      subst h1
      have := k.head
      rcases (show c = a ∨ c = a + 1 by omega) with h | h
      · subst h; exact absurd g3 (hirr _)
      · subst h; exact g3
  exact gen i b h rfl hb
section
variable {n : Nat} {K : Nat → Nat → Nat → Prop}
theorem sorts (hR : ∀ t, Rnd (K t) (K (t + 1))) (hirr : ∀ t x, ¬ K t x x) (hc : ∀ a b, a < n → b < n → Path (fun x y => K 0 x y ∨ K 0 y x) 0 (n - 1) a b) {i : Nat} (hi : i + 1 < n) : Sym (K (n - 1)) i (i + 1) := by
  have h1 : Path (Sym (K 1)) 0 (n - 1) i (i + 1) := keep (hR 0) (hc i (i + 1) (by omega) hi)
  have up : ∀ d, d ≤ n - 1 - (i + 1) → Path (Sym (K (1 + d))) 0 (n - 1 - d) i (i + 1) := by
    intro d
    induction d with
    | zero => intro _; exact h1
    | succ d ih =>
      intro hd
      have h := ih (by omega)
      rw [show n - 1 - d = (n - 1 - (d + 1)) + 1 by omega] at h
      exact (lower (hR (1 + d)) (hirr _) h (by omega)).1 (by omega)
  have h2 := up (n - 1 - (i + 1)) (Nat.le_refl _)
  rw [show n - 1 - (n - 1 - (i + 1)) = i + 1 by omega] at h2
  have down : ∀ d, d ≤ i → Path (Sym (K (1 + (n - 1 - (i + 1)) + d))) d (i + 1) i (i + 1) := by
    intro d
    induction d with
    | zero => intro _; exact h2
    | succ d ih =>
      intro hd
      exact (raise (hR (1 + (n - 1 - (i + 1)) + d)) (hirr _) (ih (by omega)) (by omega)).1 (by omega)
  have h3 := down i (Nat.le_refl _)
  rw [show 1 + (n - 1 - (i + 1)) + i = n - 1 by omega] at h3
  exact pair h3 rfl (fun x h => hirr _ x h.1)
theorem stays {K K' : Nat → Nat → Prop} (hR : Rnd K K') {i : Nat} (h : Sym K i (i + 1)) : Sym K' i (i + 1) :=
  hR i i (i + 1) ⟨.inl rfl, .inr h.1, by omega, fun r _ hh => by omega⟩
end
end Lin
end Go.Proofs.YtbnbjiddffihoaaGreatDoor

/- Peers, their references and what they do in a round of the linear repair, in plain Lean. -/
namespace Go.Proofs.YtbnbjiddffihoaaGreatDoor
open Go.RowKit

def nums4 (x : Nr) : List Int := [x.1, x.2.1, x.2.2.1, x.2.2.2]
def numsP (p : Pr) : List Int := p.known ++ [p.left, p.right] ++ p.near.flatMap nums4
def ordN (N : List Nd) (l : List Int) (but : Int) : List Int := ((sortN N).filter fun x => !(x.id == but) && l.contains x.id).map Nd.id
def refsN (N : List Nd) (p : Pr) : List Int := if checkN N = 0 then ordN N (numsP p) p.id else []
def peerN (P : List Pr) (id : Int) : Pr := (P.find? fun p => p.id == id).getD ⟨id, 0, 0, [], []⟩
def normalN (N : List Nd) (P : List Pr) : List Pr := if checkN N = 0 then (sortN N).map fun x => peerN P x.id else []
def arN (N : List Nd) (p : Pr) : List Int := if (findN N p.id).2 = true ∧ checkN N = 0 then ordN N (refsN N p ++ [p.id]) 0 else []
def pr2 (id : Int) (q : Int × Int) : List (Int × Int) := (if q.1 = id then [] else [(q.1, q.2)]) ++ (if q.2 = id then [] else [(q.2, q.1)])
def prsN (id : Int) (l : List Int) : List (Int × Int) := (l.zip l.tail).flatMap (pr2 id)
def introsN (N : List Nd) (p : Pr) : List (Int × Int) := prsN p.id (arN N p)
def besN (id : Int) (l : List Int) : Int × Int := match l.findIdx? (· == id) with
  | none => (0, 0)
  | some i => ((if i = 0 then 0 else l[i - 1]?.getD 0), l[i + 1]?.getD 0)
def keepN (N : List Nd) (p : Pr) : Int × Int := besN p.id (arN N p)
def toldN (M : List (Int × Int)) (id : Int) : List Int := (M.filter fun m => m.1 == id).map (·.2)
def roundN (N : List Nd) (P : List Pr) : List Pr :=
  (normalN N P).map fun p => { p with left := (keepN N p).1, right := (keepN N p).2, known := ordN N ([(keepN N p).1, (keepN N p).2] ++ toldN ((normalN N P).flatMap (introsN N)) p.id) p.id }

section
variable {N : List Nd} {P : List Pr}
theorem mem_ord {l : List Int} {but id : Int} : id ∈ ordN N l but ↔ (∃ x ∈ N, x.id = id) ∧ id ≠ but ∧ id ∈ l := by
  unfold ordN
  simp only [List.mem_map, List.mem_filter, sortN_mem, Bool.and_eq_true, Bool.not_eq_true', beq_eq_false_iff_ne, List.contains_iff_mem]
  constructor
  · rintro ⟨x, ⟨h1, h2, h3⟩, rfl⟩; exact ⟨⟨x, h1, rfl⟩, h2, h3⟩
  · rintro ⟨⟨x, h1, rfl⟩, h2, h3⟩; exact ⟨x, ⟨h1, h2, h3⟩, rfl⟩
theorem mem_refs (h0 : checkN N = 0) {p : Pr} {id : Int} : id ∈ refsN N p ↔ (∃ x ∈ N, x.id = id) ∧ id ≠ p.id ∧ id ∈ numsP p := by
  unfold refsN
  rw [if_pos h0, mem_ord]
theorem peer_id (P : List Pr) (id : Int) : (peerN P id).id = id := by
  unfold peerN
  cases h : P.find? fun p => p.id == id with
  | none => rfl
  | some p => simpa using List.find?_some h
theorem ar_eq (h0 : checkN N = 0) {p : Pr} {x : Nd} (hx : x ∈ N) (hid : x.id = p.id) : arN N p = ((sortN N).filter fun y => y.id == p.id || (numsP p).contains y.id).map Nd.id := by
  unfold arN
  rw [if_pos ⟨by rw [← hid, find_in h0 hx], h0⟩]
  unfold ordN
  congr 1
  refine List.filter_congr fun y hy => ?_
  have hy := (sortN_mem N y).1 hy
  have h1 := check_id h0 hy
  rw [Bool.eq_iff_iff]
  simp only [Bool.and_eq_true, Bool.not_eq_true', beq_eq_false_iff_ne, List.contains_iff_mem, List.mem_append, List.mem_singleton, Bool.or_eq_true, beq_iff_eq, mem_refs h0]
  constructor
  · rintro ⟨_, ⟨_, _, h⟩ | h⟩
    · exact .inr h
    · exact .inl h
  · rintro (h | h)
    · exact ⟨by omega, .inr h⟩
    · by_cases he : y.id = p.id
      · exact ⟨by omega, .inr he⟩
      · exact ⟨by omega, .inl ⟨⟨y, hy, rfl⟩, he, h⟩⟩
end
end Go.Proofs.YtbnbjiddffihoaaGreatDoor

/- A round of the linear repair sorts, in plain Lean. -/
namespace Go.Proofs.YtbnbjiddffihoaaGreatDoor
open Go.RowKit

def rndP (N : List Nd) (M : List (Int × Int)) (p : Pr) : Pr := { p with left := (keepN N p).1, right := (keepN N p).2, known := ordN N ([(keepN N p).1, (keepN N p).2] ++ toldN M p.id) p.id }
theorem roundN_eq (N : List Nd) (P : List Pr) : roundN N P = (normalN N P).map (rndP N ((normalN N P).flatMap (introsN N))) := rfl
section
variable {N : List Nd} {P : List Pr}
theorem sort_ids {N : List Nd} (h0 : checkN N = 0) : (sortN N).Pairwise fun x y => x.id ≠ y.id := List.Pairwise.imp (fun h => h.2) (sortN_str h0)
def KR (N : List Nd) (P : List Pr) (x y : Nat) : Prop := ∃ a b, (sortN N)[x]? = some a ∧ (sortN N)[y]? = some b ∧ b.id ∈ refsN N (peerN P a.id)
theorem KR.lt {x y : Nat} (h : KR N P x y) : x < N.length ∧ y < N.length := by
  obtain ⟨a, b, h1, h2, _⟩ := h
  have g1 := (List.getElem?_eq_some_iff.1 h1).1
  have g2 := (List.getElem?_eq_some_iff.1 h2).1
  rw [sortN_length] at g1 g2
  exact ⟨g1, g2⟩
inductive Cl (R : Int → Int → Prop) : Int → Int → Prop
  | refl (a : Int) : Cl R a a
  | step {a c b : Int} : R a c ∨ R c a → Cl R c b → Cl R a b
theorem Cl.trans {R : Int → Int → Prop} {a b c : Int} (h : Cl R a b) (k : Cl R b c) : Cl R a c := by
  induction h with
  | refl _ => exact k
  | step h1 _ ih => exact .step h1 (ih k)
theorem Cl.one {R : Int → Int → Prop} {a b : Int} (h : R a b ∨ R b a) : Cl R a b := .step h (.refl b)
theorem Cl.symm {R : Int → Int → Prop} {a b : Int} (h : Cl R a b) : Cl R b a := by
  induction h with
  | refl _ => exact .refl _
  | step h1 _ ih => exact ih.trans (.one h1.symm)
theorem Cl.mono {R R' : Int → Int → Prop} (hr : ∀ a b, R a b → Cl R' a b) {a b : Int} (h : Cl R a b) : Cl R' a b := by
  induction h with
  | refl _ => exact .refl _
  | step h1 _ ih =>
    rcases h1 with h | h
    · exact (hr _ _ h).trans ih
    · exact (hr _ _ h).symm.trans ih
def EdgeN (N : List Nd) (P : List Pr) (u v : Int) : Prop := (∃ x ∈ N, x.id = u) ∧ v ∈ refsN N (peerN P u)
def ConnN (N : List Nd) (P : List Pr) : Prop := checkN N = 0 ∧ ∀ x ∈ N, ∀ y ∈ N, Cl (EdgeN N P) x.id y.id
end
end Go.Proofs.YtbnbjiddffihoaaGreatDoor

/- What the statements of chapter 16 say, in plain Lean. -/
namespace Go.Proofs.YtbnbjiddffihoaaGreatDoor
open Go.RowKit

section
variable {N : List Nd}
theorem prs_inv {id : Int} : ∀ {l : List Int} {u v : Int}, (u, v) ∈ prsN id l → u ≠ id ∧ ∃ A B, l = A ++ u :: v :: B ∨ l = A ++ v :: u :: B
  | [], u, v, h => by simp [prsN] at h
  | [a], u, v, h => by simp [prsN] at h
  | a :: b :: r, u, v, h => by
    have e : prsN id (a :: b :: r) = pr2 id (a, b) ++ prsN id (b :: r) := by unfold prsN; simp
    rw [e] at h
    rcases List.mem_append.1 h with h | h
    · unfold pr2 at h
      rcases List.mem_append.1 h with h | h
      · by_cases ha : a = id
        · rw [if_pos ha] at h; cases h
        · rw [if_neg ha] at h
          have := List.mem_singleton.1 h
          cases this
          exact ⟨ha, [], r, .inl rfl⟩
      · by_cases hb : b = id
        · rw [if_pos (c := b = id) hb] at h; cases h
        · rw [if_neg (c := b = id) hb] at h
          have := List.mem_singleton.1 h
          cases this
          exact ⟨hb, [], r, .inr rfl⟩
    · obtain ⟨h1, A, B, h2⟩ := prs_inv h
      exact ⟨h1, a :: A, B, by rcases h2 with h | h <;> simp [h]⟩
theorem ar_nodup (h0 : checkN N = 0) {p : Pr} : (arN N p).Nodup := by
  have hs := sort_ids h0
  unfold arN
  split
  · unfold ordN
    exact List.Pairwise.map _ (fun a b h => h) (hs.filter _)
  · exact List.Pairwise.nil
variable {P : List Pr}
end
end Go.Proofs.YtbnbjiddffihoaaGreatDoor

/- How each level is made from the one below, in plain Lean. -/
namespace Go.Proofs.YtbnbjiddffihoaaGreatDoor
open Go.RowKit

section
variable {N : List Nd}
end
end Go.Proofs.YtbnbjiddffihoaaGreatDoor

/- Routes over links, in plain Lean. -/
namespace Go.Proofs.YtbnbjiddffihoaaGreatDoor
open Go.RowKit

abbrev Hop := Int × Int × Int
def atL (L : List Lkd) (id lev : Int) : Int × Int := match L.find? (fun c => c.1 == id) with | some c => if lev < 0 then (0, 0) else c.2[lev.toNat]?.getD (0, 0) | none => (0, 0)
def hopN (N : List Nd) (L : List Lkd) (key : List UInt8) (right : Bool) (x : Nd) (lev : Nat) : Option Nd :=
  if right then (if (findN N (atL L x.id lev).2).2 && (Op.bytesLess x.key.toList (findN N (atL L x.id lev).2).1.key.toList && !Op.bytesLess key (findN N (atL L x.id lev).2).1.key.toList) then some (findN N (atL L x.id lev).2).1 else none)
  else (if (findN N (atL L x.id lev).1).2 && (Op.bytesLess (findN N (atL L x.id lev).1).1.key.toList x.key.toList && Op.bytesLess key (findN N (atL L x.id lev).1).1.key.toList) then some (findN N (atL L x.id lev).1).1 else none)
def rtF (N : List Nd) (L : List Lkd) (key : List UInt8) (right : Bool) : Nat → Nd → Nat → List Hop → Nd × List Hop
  | 0, x, _, out => (x, out)
  | _ + 1, x, 0, out => (x, out)
  | f + 1, x, lev + 1, out =>
    match hopN N L key right x lev with
    | some y => rtF N L key right f y (lev + 1) (out ++ [(x.id, y.id, (lev : Int))])
    | none => rtF N L key right f x lev out
def bey (N : List Nd) (right : Bool) (x : Nd) : Nat := N.countP fun z => if right then Op.bytesLess x.key.toList z.key.toList else Op.bytesLess z.key.toList x.key.toList
def measR (N : List Nd) (right : Bool) (x : Nd) (lev : Nat) : Nat := lev * (N.length + 1) + bey N right x
variable {N : List Nd} {L : List Lkd} {key : List UInt8} {right : Bool}
theorem hop_mem {x y : Nd} {lev : Nat} (h : hopN N L key right x lev = some y) : y ∈ N ∧
    (if right then Op.bytesLess x.key.toList y.key.toList = true ∧ Op.bytesLess key y.key.toList = false else Op.bytesLess y.key.toList x.key.toList = true ∧ Op.bytesLess key y.key.toList = true) := by
  unfold hopN at h
  cases right with
  | true =>
    rw [if_pos rfl] at h ⊢
    split at h
    · rename_i hc
      cases h
      simp only [Bool.and_eq_true, Bool.not_eq_true'] at hc
      exact ⟨(findN_mem hc.1).1, hc.2.1, hc.2.2⟩
    · cases h
  | false =>
    rw [if_neg (by simp)] at h ⊢
    split at h
    · rename_i hc
      cases h
      simp only [Bool.and_eq_true] at hc
      exact ⟨(findN_mem hc.1).1, hc.2.1, hc.2.2⟩
    · cases h
theorem count_lt {α : Type} {p q : α → Bool} : ∀ {l : List α} {y : α}, y ∈ l → (∀ z, p z = true → q z = true) → q y = true → p y = false → l.countP p < l.countP q
  | [], _, hy, _, _, _ => by cases hy
  | a :: l, y, hy, h, h1, h2 => by
    rw [List.countP_cons, List.countP_cons]
    have hle : l.countP p ≤ l.countP q := List.countP_mono_left (fun z _ => h z)
    rcases List.mem_cons.1 hy with rfl | hy
    · rw [h1, h2]; simp; omega
    · have := count_lt hy h h1 h2
      have h3 := h a
      cases hp : p a with
      | true => rw [h3 hp]; simp; omega
      | false =>
        generalize (if q a = true then 1 else 0) = z
        simp
        omega
theorem bey_lt {x y : Nd} {lev : Nat} (h : hopN N L key right x lev = some y) : bey N right y < bey N right x := by
  obtain ⟨hm, hc⟩ := hop_mem h
  unfold bey
  cases right with
  | true =>
    rw [if_pos rfl] at hc
    refine count_lt hm (fun z hz => ?_) ?_ ?_
    · rw [if_pos rfl] at hz ⊢; exact bl_trans hc.1 hz
    · rw [if_pos rfl]; exact hc.1
    · rw [if_pos rfl]; exact bytesLess_irrefl _
  | false =>
    rw [if_neg (by simp)] at hc
    refine count_lt hm (fun z hz => ?_) ?_ ?_
    · rw [if_neg (by simp)] at hz ⊢; exact bl_trans hz hc.1
    · rw [if_neg (by simp)]; exact hc.1
    · rw [if_neg (by simp)]; exact bytesLess_irrefl _
theorem bey_le (x : Nd) : bey N right x ≤ N.length := List.countP_le_length
theorem meas_hop {x y : Nd} {lev : Nat} (h : hopN N L key right x lev = some y) : measR N right y (lev + 1) < measR N right x (lev + 1) := by
  have := bey_lt h
  unfold measR
  omega
theorem meas_down (x : Nd) (lev : Nat) : measR N right x lev < measR N right x (lev + 1) := by
  unfold measR
  rw [Nat.add_mul]
  omega
def RtSt (N : List Nd) (L : List Lkd) (key : List UInt8) (right : Bool) (R : Nd × List Hop) (x : Nd) (lev : Nat) (out : List Hop) : Prop := ∃ f, measR N right x lev ≤ f ∧ rtF N L key right f x lev out = R
theorem RtSt.start {x : Nd} {lev : Nat} (hl : lev ≤ 17) : RtSt N L key right (rtF N L key right (18 * (N.length + 1)) x lev []) x lev [] := by
  refine ⟨_, ?_, rfl⟩
  unfold measR
  have := bey_le (N := N) (right := right) x
  have : lev * (N.length + 1) ≤ 17 * (N.length + 1) := Nat.mul_le_mul_right _ hl
  omega
theorem RtSt.hop {R : Nd × List Hop} {x y : Nd} {lev : Nat} {out : List Hop} (h : RtSt N L key right R x (lev + 1) out) (hh : hopN N L key right x lev = some y) : RtSt N L key right R y (lev + 1) (out ++ [(x.id, y.id, (lev : Int))]) := by
  obtain ⟨f, h1, h2⟩ := h
  have hm := meas_hop hh
  obtain ⟨f, rfl⟩ : ∃ g, f = g + 1 := ⟨f - 1, by omega⟩
  refine ⟨f, by omega, ?_⟩
  rw [← h2]
  show _ = (match hopN N L key right x lev with | some y => rtF N L key right f y (lev + 1) (out ++ [(x.id, y.id, (lev : Int))]) | none => rtF N L key right f x lev out)
  rw [hh]
theorem RtSt.down {R : Nd × List Hop} {x : Nd} {lev : Nat} {out : List Hop} (h : RtSt N L key right R x (lev + 1) out) (hh : hopN N L key right x lev = none) : RtSt N L key right R x lev out := by
  obtain ⟨f, h1, h2⟩ := h
  have hm := meas_down (N := N) (right := right) x lev
  obtain ⟨f, rfl⟩ : ∃ g, f = g + 1 := ⟨f - 1, by omega⟩
  refine ⟨f, by omega, ?_⟩
  rw [← h2]
  show _ = (match hopN N L key right x lev with | some y => rtF N L key right f y (lev + 1) (out ++ [(x.id, y.id, (lev : Int))]) | none => rtF N L key right f x lev out)
  rw [hh]
end Go.Proofs.YtbnbjiddffihoaaGreatDoor

/- How the hops of a route go, in plain Lean: over any links. -/
namespace Go.Proofs.YtbnbjiddffihoaaGreatDoor
open Go.RowKit

def DirN (key : List UInt8) (right : Bool) (x y : Nd) : Prop := if right then Op.bytesLess x.key.toList y.key.toList = true ∧ Op.bytesLess key y.key.toList = false else Op.bytesLess y.key.toList x.key.toList = true ∧ Op.bytesLess key y.key.toList = true
def HopsOk (N : List Nd) (key : List UInt8) (right : Bool) (x' : Nd) : Nd → Nat → List Hop → Prop
  | x, _, [] => x = x'
  | x, lev, h :: hs => ∃ (y : Nd) (lev' : Nat), y ∈ N ∧ h = (x.id, y.id, (lev' : Int)) ∧ lev' ≤ lev ∧ DirN key right x y ∧ HopsOk N key right x' y lev' hs
variable {N : List Nd} {L : List Lkd} {key : List UInt8} {right : Bool}
theorem HopsOk.mono {x' : Nd} : ∀ {hs : List Hop} {x : Nd} {lev lev2 : Nat}, HopsOk N key right x' x lev hs → lev ≤ lev2 → HopsOk N key right x' x lev2 hs
  | [], _, _, _, h, _ => h
  | _ :: _, _, _, _, ⟨y, l', h1, h2, h3, h4, h5⟩, hl => ⟨y, l', h1, h2, by omega, h4, h5⟩
theorem HopsOk.len {x' : Nd} : ∀ {hs : List Hop} {x : Nd} {lev : Nat}, HopsOk N key right x' x lev hs → hs.length + bey N right x' ≤ bey N right x
  | [], _, _, h => by rw [← show _ = x' from h]; simp
  | _ :: hs, x, _, ⟨y, l', h1, h2, h3, h4, h5⟩ => by
    have := h5.len
    have hlt : bey N right y < bey N right x := by
      unfold bey
      cases right with
      | true =>
        unfold DirN at h4
        rw [if_pos rfl] at h4
        refine count_lt h1 (fun z hz => ?_) ?_ ?_
        · rw [if_pos rfl] at hz ⊢; exact bl_trans h4.1 hz
        · rw [if_pos rfl]; exact h4.1
        · rw [if_pos rfl]; exact bytesLess_irrefl _
      | false =>
        unfold DirN at h4
        rw [if_neg (by simp)] at h4
        refine count_lt h1 (fun z hz => ?_) ?_ ?_
        · rw [if_neg (by simp)] at hz ⊢; exact bl_trans hz h4.1
        · rw [if_neg (by simp)]; exact h4.1
        · rw [if_neg (by simp)]; exact bytesLess_irrefl _
    simp only [List.length_cons]
    omega
theorem HopsOk.side {x' : Nd} : ∀ {hs : List Hop} {x : Nd} {lev : Nat}, HopsOk N key right x' x lev hs → (if right then Op.bytesLess key x.key.toList = false else Op.bytesLess key x.key.toList = true) → (if right then Op.bytesLess key x'.key.toList = false else Op.bytesLess key x'.key.toList = true)
  | [], _, _, h, hk => by rw [← show _ = x' from h]; exact hk
  | _ :: hs, x, _, ⟨y, l', h1, h2, h3, h4, h5⟩, hk => h5.side (by
      unfold DirN at h4
      cases right with
      | true => rw [if_pos rfl] at h4 ⊢; exact h4.2
      | false => rw [if_neg (by simp)] at h4 ⊢; exact h4.2)
theorem HopsOk.mem {x' : Nd} : ∀ {hs : List Hop} {x : Nd} {lev : Nat}, HopsOk N key right x' x lev hs → x ∈ N → x' ∈ N
  | [], _, _, h, hx => by rw [← show _ = x' from h]; exact hx
  | _ :: _, _, _, ⟨_, _, h1, _, _, _, h5⟩, _ => h5.mem h1
def RouteOk (N : List Nd) (key : List UInt8) (right : Bool) : Nd → Nat → List Hop → Prop
  | _, _, [] => True
  | x, lev, h :: hs => ∃ (y : Nd) (lev' : Nat), y ∈ N ∧ h = (x.id, y.id, (lev' : Int)) ∧ lev' ≤ lev ∧
      (DirN key right x y ∨ (right = false ∧ hs = [] ∧ lev' = 0 ∧ Op.bytesLess key y.key.toList = false ∧ Op.bytesLess y.key.toList x.key.toList = true)) ∧ RouteOk N key right y lev' hs
theorem HopsOk.route {x' : Nd} : ∀ {hs : List Hop} {x : Nd} {lev : Nat}, HopsOk N key right x' x lev hs → RouteOk N key right x lev hs
  | [], _, _, _ => trivial
  | _ :: _, _, _, ⟨y, l', h1, h2, h3, h4, h5⟩ => ⟨y, l', h1, h2, h3, .inl h4, h5.route⟩
theorem HopsOk.snoc {x' y : Nd} (hy : y ∈ N) (hr : right = false) (h1 : Op.bytesLess key y.key.toList = false) (h2 : Op.bytesLess y.key.toList x'.key.toList = true) : ∀ {hs : List Hop} {x : Nd} {lev : Nat}, HopsOk N key right x' x lev hs → RouteOk N key right x lev (hs ++ [(x'.id, y.id, 0)])
  | [], x, lev, h => by
    have h : x = x' := h
    subst h
    exact ⟨y, 0, hy, rfl, by omega, .inr ⟨hr, rfl, rfl, h1, h2⟩, trivial⟩
  | _ :: _, _, _, ⟨z, l', g1, g2, g3, g4, g5⟩ => ⟨z, l', g1, g2, g3, .inl g4, g5.snoc hy hr h1 h2⟩
end Go.Proofs.YtbnbjiddffihoaaGreatDoor

/- Runs, bounds and where searches end, in plain Lean. -/
namespace Go.Proofs.YtbnbjiddffihoaaGreatDoor
open Go.RowKit

def brkN (x : Nd) (lev : Int) (y : Nd) : Bool := y.id == x.id || sameN x.word y.word (lev + 1)
def runStep (x : Nd) (lev : Int) (s : Nat × Nat) (y : Nd) : Nat × Nat := if brkN x lev y then (s.1, 0) else (max s.1 (s.2 + 1), s.2 + 1)
def runF (x : Nd) (lev : Int) (G : List Nd) : Nat × Nat := G.foldl (runStep x lev) (0, 0)
def runN (l : List Nd) (id lev : Int) : Nat := if checkN l = 0 ∧ (findN l id).2 = true ∧ lvlN lev = true then (runF (findN l id).1 lev (thrG l id lev)).1 else 0
section
variable {x : Nd} {lev : Int}
theorem run_inv : ∀ (G : List Nd) (s : Nat × Nat), s.2 ≤ s.1 → (G.foldl (runStep x lev) s).2 ≤ (G.foldl (runStep x lev) s).1 ∧ s.1 ≤ (G.foldl (runStep x lev) s).1
  | [], s, h => ⟨h, Nat.le_refl _⟩
  | y :: G, s, h => by
    have h1 : (runStep x lev s y).2 ≤ (runStep x lev s y).1 ∧ s.1 ≤ (runStep x lev s y).1 := by
      unfold runStep
      split
      · exact ⟨Nat.zero_le _, Nat.le_refl _⟩
      · exact ⟨by show s.2 + 1 ≤ max s.1 (s.2 + 1); omega, by show s.1 ≤ max s.1 (s.2 + 1); omega⟩
    have := run_inv G _ h1.1
    exact ⟨this.1, Nat.le_trans h1.2 this.2⟩
theorem run_q : ∀ (Q : List Nd) (s : Nat × Nat), s.2 ≤ s.1 → (∀ y ∈ Q, brkN x lev y = false) → (Q.foldl (runStep x lev) s).2 = s.2 + Q.length
  | [], s, _, _ => rfl
  | y :: Q, s, h, hQ => by
    have e : runStep x lev s y = (max s.1 (s.2 + 1), s.2 + 1) := by unfold runStep; rw [hQ y (by simp)]; rfl
    show (Q.foldl (runStep x lev) (runStep x lev s y)).2 = _
    rw [e, run_q Q _ (by simp only; omega) (fun z hz => hQ z (by simp [hz]))]
    simp only [List.length_cons]
    omega
theorem run_seg (A Q B : List Nd) (hQ : ∀ y ∈ Q, brkN x lev y = false) : Q.length ≤ (runF x lev (A ++ Q ++ B)).1 := by
  unfold runF
  rw [List.foldl_append, List.foldl_append]
  have h1 := run_inv (x := x) (lev := lev) A (0, 0) (Nat.le_refl _)
  have h2 := run_q Q _ h1.1 hQ
  have h3 := run_inv (x := x) (lev := lev) Q _ h1.1
  have h4 := run_inv (x := x) (lev := lev) B _ h3.1
  omega
end
theorem runN_eq {l : List Nd} (h0 : checkN l = 0) {x : Nd} (hx : x ∈ l) {h : Nat} (hh : h ≤ 16) : runN l x.id h = (runF x h (grpS l h x.word)).1 := by
  have hf := find_in h0 hx
  unfold runN thrG
  rw [hf, if_pos ⟨h0, rfl, by unfold lvlN; simp; omega⟩]
  rfl
end Go.Proofs.YtbnbjiddffihoaaGreatDoor

/- Where searches over exact links end, and after how many hops, in plain Lean. -/
namespace Go.Proofs.YtbnbjiddffihoaaGreatDoor
open Go.RowKit

def dirL (right : Bool) (G : List Nd) : List Nd := if right then G else G.reverse
def dlt (right : Bool) (a b : Nd) : Bool := if right then Op.bytesLess a.key.toList b.key.toList else Op.bytesLess b.key.toList a.key.toList
def win (right : Bool) (key : List UInt8) (z : Nd) : Bool := if right then !Op.bytesLess key z.key.toList else Op.bytesLess key z.key.toList
theorem dlt_trans {right : Bool} {a b c : Nd} (h1 : dlt right a b = true) (h2 : dlt right b c = true) : dlt right a c = true := by
  cases right with
  | true => exact bl_trans h1 h2
  | false => exact bl_trans h2 h1
theorem dlt_irrefl {right : Bool} (a : Nd) : dlt right a a = false := by
  cases right <;> exact bytesLess_irrefl _
theorem win_down {right : Bool} {key : List UInt8} {a b : Nd} (h : dlt right a b = true) (hw : win right key b = true) : win right key a = true := by
  cases right with
  | true =>
    have h : Op.bytesLess a.key.toList b.key.toList = true := h
    have hw : (!Op.bytesLess key b.key.toList) = true := hw
    show (!Op.bytesLess key a.key.toList) = true
    cases hk : Op.bytesLess key a.key.toList with
    | false => rfl
    | true => rw [bl_trans hk h] at hw; cases hw
  | false =>
    have h : Op.bytesLess b.key.toList a.key.toList = true := h
    have hw : Op.bytesLess key b.key.toList = true := hw
    exact bl_trans hw h
theorem dir_asc {right : Bool} {G : List Nd} (h : AscS G) : (dirL right G).Pairwise fun a b => dlt right a b = true := by
  cases right with
  | true => exact List.Pairwise.imp (fun h => h.1) h
  | false => exact List.pairwise_reverse.2 (List.Pairwise.imp (fun h => h.1) h)
theorem dir_mem {right : Bool} {G : List Nd} {y : Nd} : y ∈ dirL right G ↔ y ∈ G := by cases right <;> simp [dirL]
section
variable {N : List Nd} {L : List Lkd} {key : List UInt8} {right : Bool}
def nextW (right : Bool) (key : List UInt8) : List Nd → Option Nd
  | [] => none
  | y :: _ => if win right key y = true then some y else none
theorem nextW_nil (right : Bool) (key : List UInt8) : nextW right key [] = none := rfl
theorem nextW_cons (right : Bool) (key : List UInt8) (y : Nd) (B : List Nd) : nextW right key (y :: B) = if win right key y = true then some y else none := rfl
theorem hop_exact (h0 : checkN N = 0) {x : Nd} {lev : Nat} (hl : lev ≤ 16) (hx : x ∈ N) (hL : atL L x.id lev = (neighN N x.id lev).1) {A B : List Nd} (e : dirL right (grpS N lev x.word) = A ++ x :: B) :
    hopN N L key right x lev = nextW right key B := by
  have hlv : lvlN (lev : Int) = true := by unfold lvlN; simp; omega
  have hm : ∀ y ∈ A ++ x :: B, y ∈ N := fun y hy => (grp_mem.1 (dir_mem.1 (by rw [e]; exact hy))).1
  have ha := dir_asc (right := right) (grp_asc h0 (lev : Int) x.word)
  rw [e] at ha
  have hxB := (List.pairwise_cons.1 (List.pairwise_append.1 ha).2.1).1
  cases right with
  | true =>
    have hn := neigh_split h0 hx hlv (A := A) (B := B) e
    unfold hopN
    rw [if_pos rfl, hL, hn]
    cases B with
    | nil => simp [headI, Nd.zero, find_zero h0, nextW_nil]
    | cons y B =>
      have hy := find_in h0 (hm y (by simp))
      have h1 : Op.bytesLess x.key.toList y.key.toList = true := hxB y (by simp)
      simp only [headI, List.head?_cons, Option.getD_some, hy]
      simp [h1, win, nextW_cons]
  | false =>
    have e' : grpS N lev x.word = B.reverse ++ x :: A.reverse := by
      have := congrArg List.reverse (show (grpS N lev x.word).reverse = A ++ x :: B from e)
      simpa using this
    have hn := neigh_split h0 hx hlv e'
    unfold hopN
    rw [if_neg (by simp), hL, hn]
    cases B with
    | nil => simp [lastI, Nd.zero, find_zero h0, nextW_nil]
    | cons y B =>
      have hy := find_in h0 (hm y (by simp))
      have h1 : Op.bytesLess y.key.toList x.key.toList = true := hxB y (by simp)
      simp only [lastI, List.reverse_cons, List.getLast?_append, List.getLast?_singleton, Option.some_or, Option.getD_some, hy]
      simp [h1, win, nextW_cons]
def CntSt (N : List Nd) (key : List UInt8) (right : Bool) (frm : Nd) (lev : Nat) (x : Nd) (q : Nat) : Prop :=
  ∃ P A Q B, dirL right (grpS N (lev : Int) frm.word) = P ++ x :: B ∧ P ++ [x] = A ++ Q ∧ Q.length = q ∧ (∀ y ∈ Q, brkN frm lev y = false) ∧ (∀ y ∈ B, win right key y = true → brkN frm lev y = false) ∧ (x = frm ∨ dlt right frm x = true)
theorem run_dir (h0 : checkN N = 0) {frm : Nd} (hf : frm ∈ N) {lev : Nat} (hl : lev ≤ 16) {A Q B : List Nd} (e : dirL right (grpS N (lev : Int) frm.word) = A ++ Q ++ B) (hQ : ∀ y ∈ Q, brkN frm lev y = false) : Q.length ≤ runN N frm.id lev := by
  rw [runN_eq h0 hf hl]
  cases right with
  | true =>
    have e : grpS N (lev : Int) frm.word = A ++ Q ++ B := e
    rw [e]; exact run_seg A Q B hQ
  | false =>
    have e' : grpS N (lev : Int) frm.word = B.reverse ++ Q.reverse ++ A.reverse := by
      have := congrArg List.reverse (show (grpS N lev frm.word).reverse = A ++ Q ++ B from e)
      simpa using this
    rw [e', ← List.length_reverse]; exact run_seg _ _ _ (fun y hy => hQ y (by simpa using hy))
theorem CntSt.le (h0 : checkN N = 0) {frm : Nd} (hf : frm ∈ N) {lev : Nat} (hl : lev ≤ 16) {x : Nd} {q : Nat} (h : CntSt N key right frm lev x q) : q ≤ runN N frm.id lev := by
  obtain ⟨P, A, Q, B, e1, e2, rfl, h3, _, _⟩ := h
  refine run_dir (right := right) (A := A) (B := B) h0 hf hl ?_ h3
  rw [e1, ← e2]; simp
theorem CntSt.mem {frm : Nd} {lev : Nat} {x : Nd} {q : Nat} (h : CntSt N key right frm lev x q) : x ∈ N ∧ sameN x.word frm.word lev = true := by
  obtain ⟨P, A, Q, B, e1, _⟩ := h
  exact grp_mem.1 (dir_mem.1 (by rw [e1]; simp))
theorem CntSt.own (hw : ∀ x ∈ N, x.word < 4294967296) {frm : Nd} (hf : frm ∈ N) {lev : Nat} {x : Nd} {q : Nat} (h : CntSt N key right frm lev x q) : grpS N (lev : Int) x.word = grpS N (lev : Int) frm.word :=
  grp_eq hw (hw x h.mem.1) (hw frm hf) h.mem.2
theorem CntSt.step (h0 : checkN N = 0) (hw : ∀ x ∈ N, x.word < 4294967296) {frm : Nd} (hf : frm ∈ N) {lev : Nat} (hl : lev ≤ 16) {x y : Nd} {q : Nat} (h : CntSt N key right frm lev x q) (hL : atL L x.id lev = (neighN N x.id lev).1) (hh : hopN N L key right x lev = some y) :
    CntSt N key right frm lev y (q + 1) := by
  have ho := h.own hw hf
  have hm := h.mem
  obtain ⟨P, A, Q, B, e1, e2, rfl, h3, h4, h5⟩ := h
  rw [hop_exact h0 hl hm.1 hL (by rw [ho]; exact e1)] at hh
  have ha := dir_asc (right := right) (grp_asc h0 (lev : Int) frm.word)
  rw [e1] at ha
  have hxB := (List.pairwise_cons.1 (List.pairwise_append.1 ha).2.1).1
  cases B with
  | nil => cases hh
  | cons z B =>
    rw [nextW_cons] at hh
    split at hh
    · rename_i hwin
      cases hh
      refine ⟨P ++ [x], A, Q ++ [y], B, by rw [e1]; simp, by rw [e2]; simp, by simp, ?_, fun z hz => h4 z (by simp [hz]), ?_⟩
      · intro z hz
        rcases List.mem_append.1 hz with h | h
        · exact h3 z h
        · have : z = y := by simpa using h
          rw [this]
          exact h4 y (by simp) hwin
      · have hxy := hxB y (by simp)
        rcases h5 with rfl | h5
        · exact .inr hxy
        · exact .inr (dlt_trans h5 hxy)
    · cases hh
theorem sameN_le {a b : Nat} {h k : Int} (hs : sameN a b h = true) (hk : k ≤ h) : sameN a b k = true := by
  unfold sameN at *
  simp only [decide_eq_true_eq] at *
  omega
theorem CntSt.down (h0 : checkN N = 0) (hw : ∀ x ∈ N, x.word < 4294967296) {frm : Nd} (hf : frm ∈ N) {lev : Nat} (hl : lev + 1 ≤ 16) {x : Nd} {q : Nat} (h : CntSt N key right frm (lev + 1) x q) (hL : atL L x.id (lev + 1 : Nat) = (neighN N x.id (lev + 1 : Nat)).1) (hh : hopN N L key right x (lev + 1) = none) :
    CntSt N key right frm lev x 0 := by
  have ho := h.own hw hf
  have hm := h.mem
  obtain ⟨P, A, Q, B, e1, e2, rfl, h3, h4, h5⟩ := h
  rw [hop_exact h0 hl hm.1 hL (by rw [ho]; exact e1)] at hh
  have ha := dir_asc (right := right) (grp_asc h0 ((lev + 1 : Nat) : Int) frm.word)
  rw [e1] at ha
  have ha2 := List.pairwise_append.1 ha
  have hxm : x ∈ dirL right (grpS N (lev : Int) frm.word) := dir_mem.2 (grp_mem.2 ⟨hm.1, sameN_le hm.2 (by omega)⟩)
  obtain ⟨P2, B2, f1⟩ := List.append_of_mem hxm
  have hb := dir_asc (right := right) (grp_asc h0 (lev : Int) frm.word)
  rw [f1] at hb
  have hb2 := (List.pairwise_cons.1 (List.pairwise_append.1 hb).2.1).1
  refine ⟨P2, P2 ++ [x], [], B2, f1, by simp, rfl, by simp, fun z hz hwz => ?_, h5⟩
  have hxz := hb2 z hz
  have hzN : z ∈ N := (grp_mem.1 (dir_mem.1 (by rw [f1]; simp [hz]))).1
  cases hbr : brkN frm lev z with
  | false => rfl
  | true =>
    exfalso
    unfold brkN at hbr
    rcases Bool.or_eq_true_iff.1 hbr with h | h
    · have hid : z.id = frm.id := by simpa using h
      have hz2 : z = frm := ids_eq (check_keys h0) hzN hf hid
      rw [hz2] at hxz
      rcases h5 with rfl | h5
      · rw [dlt_irrefl] at hxz; cases hxz
      · have := dlt_trans h5 hxz
        rw [dlt_irrefl] at this; cases this
    · have hzG : z ∈ dirL right (grpS N ((lev + 1 : Nat) : Int) frm.word) := dir_mem.2 (grp_mem.2 ⟨hzN, sameN_symm (by rw [show ((lev + 1 : Nat) : Int) = (lev : Int) + 1 by omega]; exact h)⟩)
      rw [e1] at hzG
      have hzB : z ∈ B := by
        rcases List.mem_append.1 hzG with h | h
        · have := ha2.2.2 z h x (by simp)
          have := dlt_trans this hxz
          rw [dlt_irrefl] at this; cases this
        · rcases List.mem_cons.1 h with h | h
          · rw [h, dlt_irrefl] at hxz; cases hxz
          · exact h
      cases B with
      | nil => cases hzB
      | cons y B =>
        rw [nextW_cons] at hh
        split at hh
        · cases hh
        · rename_i hwn
          rcases List.mem_cons.1 hzB with h | h
          · rw [h] at hwz; exact hwn hwz
          · exact hwn (win_down ((List.pairwise_cons.1 (List.pairwise_cons.1 ha2.2.1).2).1 z h) hwz)
end
end Go.Proofs.YtbnbjiddffihoaaGreatDoor

/- What the statements of chapters 17 and 18 say, in plain Lean. -/
namespace Go.Proofs.YtbnbjiddffihoaaGreatDoor
open Go.RowKit

section
variable {N : List Nd}
end
end Go.Proofs.YtbnbjiddffihoaaGreatDoor

/- Components by labels, in plain Lean. -/
namespace Go.Proofs.YtbnbjiddffihoaaGreatDoor
open Go.RowKit

namespace Lab
def joinL (lab : List Nat) (i j : Nat) : List Nat := (lab.set i (min (lab.getD i 0) (lab.getD j 0))).set j (min (lab.getD i 0) (lab.getD j 0))
def stepL (ids : List Int) (lab : List Nat) (q : Int × Int) : List Nat := match ids.findIdx? (· == q.1), ids.findIdx? (· == q.2) with
  | some i, some j => joinL lab i j
  | _, _ => lab
def sweepL (ids : List Int) (E : List (Int × Int)) (lab : List Nat) : List Nat := E.foldl (stepL ids) lab
def labsL (ids : List Int) (E : List (Int × Int)) : Nat → List Nat
  | 0 => List.range ids.length
  | t + 1 => sweepL ids E (labsL ids E t)
def Ed (ids : List Int) (E : List (Int × Int)) (i j : Nat) : Prop := ∃ q ∈ E, ids.findIdx? (· == q.1) = some i ∧ ids.findIdx? (· == q.2) = some j
inductive Cn (ids : List Int) (E : List (Int × Int)) : Nat → Nat → Prop
  | refl (i : Nat) : Cn ids E i i
  | step {i j k : Nat} : Ed ids E i j ∨ Ed ids E j i → Cn ids E j k → Cn ids E i k
variable {ids : List Int} {E : List (Int × Int)}
theorem Cn.trans {i j k : Nat} (h : Cn ids E i j) (g : Cn ids E j k) : Cn ids E i k := by
  induction h with
  | refl _ => exact g
  | step h1 _ ih => exact .step h1 (ih g)
theorem Cn.one {i j : Nat} (h : Ed ids E i j ∨ Ed ids E j i) : Cn ids E i j := .step h (.refl j)
theorem Cn.symm {i j : Nat} (h : Cn ids E i j) : Cn ids E j i := by
  induction h with
  | refl _ => exact .refl _
  | step h1 _ ih => exact ih.trans (.one h1.symm)
theorem ed_lt {i j : Nat} (h : Ed ids E i j) : i < ids.length ∧ j < ids.length := by
  obtain ⟨q, _, h1, h2⟩ := h
  exact ⟨(List.findIdx?_eq_some_iff_getElem.1 h1).1, (List.findIdx?_eq_some_iff_getElem.1 h2).1⟩
theorem set_getD (l : List Nat) (i x k : Nat) (h : i < l.length) : (l.set i x).getD k 0 = if k = i then x else l.getD k 0 := by
  rw [List.getD_eq_getElem?_getD, List.getD_eq_getElem?_getD]
  by_cases hk : k = i
  · subst hk; rw [if_pos rfl, List.getElem?_set_self h]; rfl
  · rw [if_neg hk, List.getElem?_set_ne (Ne.symm hk)]
theorem join_getD (lab : List Nat) (i j k : Nat) (hi : i < lab.length) (hj : j < lab.length) : (joinL lab i j).getD k 0 = if k = i ∨ k = j then min (lab.getD i 0) (lab.getD j 0) else lab.getD k 0 := by
  unfold joinL
  rw [set_getD _ _ _ _ (by simp; exact hj), set_getD _ _ _ _ hi]
  by_cases h1 : k = j
  · rw [if_pos h1, if_pos (.inr h1)]
  · rw [if_neg h1]
    by_cases h2 : k = i
    · rw [if_pos h2, if_pos (.inl h2)]
    · rw [if_neg h2, if_neg (by rintro (h | h); exact h2 h; exact h1 h)]
theorem join_len (lab : List Nat) (i j : Nat) : (joinL lab i j).length = lab.length := by unfold joinL; simp
def Okl (ids : List Int) (E : List (Int × Int)) (lab : List Nat) : Prop := lab.length = ids.length ∧ ∀ i, i < ids.length → lab.getD i 0 ≤ i ∧ Cn ids E i (lab.getD i 0)
def Lel (a b : List Nat) : Prop := ∀ i, b.getD i 0 ≤ a.getD i 0
theorem stepl_ok {lab : List Nat} (h : Okl ids E lab) {q : Int × Int} (hq : q ∈ E) : Okl ids E (stepL ids lab q) ∧ Lel lab (stepL ids lab q) := by
  unfold stepL
  cases h1 : ids.findIdx? (· == q.1) with
  | none => exact ⟨h, fun i => Nat.le_refl _⟩
  | some i =>
    cases h2 : ids.findIdx? (· == q.2) with
    | none => exact ⟨h, fun i => Nat.le_refl _⟩
    | some j =>
      simp only
      have he : Ed ids E i j := ⟨q, hq, h1, h2⟩
      obtain ⟨hi, hj⟩ := ed_lt he
      have li : i < lab.length := by rw [h.1]; exact hi
      have lj : j < lab.length := by rw [h.1]; exact hj
      have ci := h.2 i hi
      have cj := h.2 j hj
      have hij : Cn ids E i j := .one (.inl he)
      refine ⟨⟨by rw [join_len]; exact h.1, fun k hk => ?_⟩, fun k => ?_⟩
      · rw [join_getD lab i j k li lj]
        by_cases hkk : k = i ∨ k = j
        · rw [if_pos hkk]
          rcases hkk with rfl | rfl
          · refine ⟨by omega, ?_⟩
            rcases Nat.le_total (lab.getD k 0) (lab.getD j 0) with h | h
            · rw [Nat.min_eq_left h]; exact ci.2
            · rw [Nat.min_eq_right h]; exact hij.trans cj.2
          · refine ⟨by omega, ?_⟩
            rcases Nat.le_total (lab.getD i 0) (lab.getD k 0) with h | h
            · rw [Nat.min_eq_left h]; exact hij.symm.trans ci.2
            · rw [Nat.min_eq_right h]; exact cj.2
        · rw [if_neg hkk]; exact h.2 k hk
      · rw [join_getD lab i j k li lj]
        by_cases hkk : k = i ∨ k = j
        · rw [if_pos hkk]
          rcases hkk with rfl | rfl <;> omega
        · rw [if_neg hkk]; exact Nat.le_refl _
theorem fold_ok : ∀ (F : List (Int × Int)) (lab : List Nat), (∀ q ∈ F, q ∈ E) → Okl ids E lab → Okl ids E (F.foldl (stepL ids) lab) ∧ Lel lab (F.foldl (stepL ids) lab)
  | [], lab, _, h => ⟨h, fun _ => Nat.le_refl _⟩
  | q :: F, lab, hF, h => by
    obtain ⟨h1, h2⟩ := stepl_ok h (hF q (by simp))
    obtain ⟨h3, h4⟩ := fold_ok F _ (fun r hr => hF r (by simp [hr])) h1
    exact ⟨h3, fun i => Nat.le_trans (h4 i) (h2 i)⟩
theorem labs_ok : ∀ t, Okl ids E (labsL ids E t)
  | 0 => ⟨by simp [labsL], fun i hi => by
      have : (labsL ids E 0).getD i 0 = i := by unfold labsL; rw [List.getD_eq_getElem?_getD, List.getElem?_range hi]; rfl
      rw [this]
      exact ⟨Nat.le_refl _, .refl _⟩⟩
  | t + 1 => (fold_ok E _ (fun _ h => h) (labs_ok t)).1
theorem labs_le (t : Nat) : Lel (labsL ids E t) (labsL ids E (t + 1)) := (fold_ok E _ (fun _ h => h) (labs_ok t)).2
theorem carry {c : Nat} : ∀ (F : List (Int × Int)) (lab : List Nat), (∀ q ∈ F, q ∈ E) → Okl ids E lab → ∀ {q : Int × Int} {i j : Nat}, q ∈ F → ids.findIdx? (· == q.1) = some i → ids.findIdx? (· == q.2) = some j →
    (lab.getD i 0 ≤ c ∨ lab.getD j 0 ≤ c) → (F.foldl (stepL ids) lab).getD i 0 ≤ c ∧ (F.foldl (stepL ids) lab).getD j 0 ≤ c
  | [], _, _, _, _, _, _, hq, _, _, _ => by cases hq
  | r :: F, lab, hF, h, q, i, j, hq, h1, h2, hc => by
    have ho := stepl_ok h (hF r (by simp))
    have hl := (fold_ok F _ (fun r hr => hF r (by simp [hr])) ho.1).2
    show (F.foldl (stepL ids) (stepL ids lab r)).getD i 0 ≤ c ∧ (F.foldl (stepL ids) (stepL ids lab r)).getD j 0 ≤ c
    rcases List.mem_cons.1 hq with rfl | hq
    · have he : Ed ids E i j := ⟨q, hF q (by simp), h1, h2⟩
      obtain ⟨hi, hj⟩ := ed_lt he
      have li : i < lab.length := by rw [h.1]; exact hi
      have lj : j < lab.length := by rw [h.1]; exact hj
      have e : stepL ids lab q = joinL lab i j := by unfold stepL; rw [h1, h2]
      have gi : (stepL ids lab q).getD i 0 ≤ c := by rw [e, join_getD lab i j i li lj, if_pos (.inl rfl)]; omega
      have gj : (stepL ids lab q).getD j 0 ≤ c := by rw [e, join_getD lab i j j li lj, if_pos (.inr rfl)]; omega
      exact ⟨Nat.le_trans (hl i) gi, Nat.le_trans (hl j) gj⟩
    · refine carry F _ (fun r hr => hF r (by simp [hr])) ho.1 hq h1 h2 ?_
      rcases hc with hc | hc
      · exact .inl (Nat.le_trans (ho.2 i) hc)
      · exact .inr (Nat.le_trans (ho.2 j) hc)
theorem carry_labs {c t i j : Nat} (he : Ed ids E i j ∨ Ed ids E j i) (hc : (labsL ids E t).getD i 0 ≤ c) : (labsL ids E (t + 1)).getD j 0 ≤ c := by
  rcases he with ⟨q, hq, h1, h2⟩ | ⟨q, hq, h1, h2⟩
  · exact (carry E _ (fun _ h => h) (labs_ok t) hq h1 h2 (.inl hc)).2
  · exact (carry E _ (fun _ h => h) (labs_ok t) hq h1 h2 (.inr hc)).1
theorem border {P : Nat → Prop} (hdec : ∀ i, P i ∨ ¬ P i) {i j : Nat} (h : Cn ids E i j) : P i → ¬ P j → ∃ u v, (Ed ids E u v ∨ Ed ids E v u) ∧ P u ∧ ¬ P v ∧ Cn ids E i v := by
  induction h with
  | refl _ => intro h1 h2; exact absurd h1 h2
  | step h1 g ih =>
    rename_i i k j
    intro hi hj
    rcases hdec k with hk | hk
    · obtain ⟨u, v, h2, h3, h4, h5⟩ := ih hk hj
      exact ⟨u, v, h2, h3, h4, (Cn.one h1).trans h5⟩
    · exact ⟨i, k, h1, hi, hk, .one h1⟩
theorem conv {c : Nat} (hc : c < ids.length) {j : Nat} (hj : j < ids.length) (h : Cn ids E c j) : (labsL ids E ids.length).getD j 0 ≤ c := by
  -- the number of places that bear c or less grows until all of the component do
  have grow : ∀ t, (∀ j, j < ids.length → Cn ids E c j → (labsL ids E t).getD j 0 ≤ c) ∨ t + 1 ≤ ((List.range ids.length).countP fun i => decide ((labsL ids E t).getD i 0 ≤ c)) := by
    intro t
    induction t with
    | zero =>
      right
      refine List.countP_pos_iff.2 ⟨c, by simpa using hc, ?_⟩
      have := ((labs_ok (ids := ids) (E := E) 0).2 c hc).1
      simpa using this
    | succ t ih =>
      rcases ih with h | h
      · left
        intro j hj hcj
        exact Nat.le_trans (labs_le t j) (h j hj hcj)
      · by_cases hall : ∀ j, j < ids.length → Cn ids E c j → (labsL ids E t).getD j 0 ≤ c
        · left
          intro j hj hcj
          exact Nat.le_trans (labs_le t j) (hall j hj hcj)
        · right
          have hex : ∃ j, j < ids.length ∧ Cn ids E c j ∧ ¬ (labsL ids E t).getD j 0 ≤ c := by
            apply Classical.byContradiction
            intro hno
            exact hall fun j hj hcj => Classical.byContradiction fun hn => hno ⟨j, hj, hcj, hn⟩
          obtain ⟨j, hj, hcj, hn⟩ := hex
          obtain ⟨u, v, he, hu, hv, _⟩ := border (P := fun i => (labsL ids E t).getD i 0 ≤ c) (fun i => Classical.em _) hcj ((labs_ok (ids := ids) (E := E) t).2 c hc).1 hn
          have hvl : v < ids.length := by rcases he with h | h; exact (ed_lt h).2; exact (ed_lt h).1
          have := carry_labs he hu
          have hlt : ((List.range ids.length).countP fun i => decide ((labsL ids E t).getD i 0 ≤ c)) < ((List.range ids.length).countP fun i => decide ((labsL ids E (t + 1)).getD i 0 ≤ c)) :=
            count_lt (y := v) (by simpa using hvl) (fun z hz => by simp only [decide_eq_true_eq] at hz ⊢; exact Nat.le_trans (labs_le t z) hz) (by simpa using this) (by simpa using hv)
          omega
  rcases grow ids.length with g | g
  · exact g j hj h
  · have : ((List.range ids.length).countP fun i => decide ((labsL ids E ids.length).getD i 0 ≤ c)) ≤ (List.range ids.length).length := List.countP_le_length
    rw [List.length_range] at this
    omega
end Lab
end Go.Proofs.YtbnbjiddffihoaaGreatDoor

/- What connects the nodes, by labels; in plain Lean. -/
namespace Go.Proofs.YtbnbjiddffihoaaGreatDoor
open Go.RowKit

section
variable {N : List Nd} {E : List (Int × Int)}
end
end Go.Proofs.YtbnbjiddffihoaaGreatDoor

/- Without of the package roster: slices.Index, Contains, DeleteFunc. -/
namespace Go.Proofs.YtbnbjiddffihoaaGreatDoor
open Go.RowKit

def IjRel (l : List Int) (v : Int) (n : Nat) (w : World) (i : Value) (wr : World) : Prop :=
  ∃ k : Nat, k ≤ n ∧ i = .int .i64 k ∧ Ex w wr ∧ ∀ j z, j < k → l[j]? = some z → z ≠ v
set_option maxHeartbeats 1000000 in
theorem index_i (a : Option Addr) (n c : Nat) (l : List Int) (v : Int) (w : World) (h : Sl 1 encI w a n l) (hn : n ≤ 4000000000000000000) :
    Calls Tryz.prog 71 #[.slice a n c, .int .i64 v] w fun e w' => ∃ r : Int, e = .returned (.int .i64 r) ∧ decide (0 ≤ r) = l.contains v ∧ Ex w w' := by
  have HL := Lib.hid h.len
  have hs := Lib.hid h
  clear h
  go_enter Tryz.func71, Tryz.ntmps71
  go_wp2
  go_loopw [8] (fun i wr => IjRel l v n w i wr) (fun i _ => n - (intOf i).toNat)
  case atStart => exact ⟨0, by omega, rfl, Ex.refl _, by intro j z h; omega⟩
  case round =>
    obtain ⟨k, hk, rfl, kw, hno⟩ := hrel
    have HNO := Lib.hid hno
    clear hno
    obtain ⟨wo, rfl⟩ : ∃ wo : World, wo = wr := ⟨_, rfl⟩
    by_cases hlt : k < n
    · obtain ⟨x1, o1, y, rfl, hx1, hy, hc1⟩ := (hs.out.nx kw).at hlt
      have e0 : wo.cell? ⟨x1, o1 + k, none⟩ = some (.int .i64 y) := by simpa using hc1 0 _ rfl
      have HY := Lib.hid hy
      have KW := Lib.hid kw
      clear hc1 hy kw
      by_cases hv : y = v
      · have HC : Hid (decide ((0 : Int) ≤ (k : Int)) = l.contains v) := Lib.hid (by
          have h1 : l.contains v = true := by rw [List.contains_iff_mem, ← hv]; exact List.mem_of_getElem? HY.out
          rw [h1]; simp)
        have hb : (v == y) = true := by rw [hv]; simp
        clear hv
        go_wp2_with fail
        go_ret
        exact ⟨k, rfl, HC.out, KW.out⟩
      · have HV := Lib.hid hv
        have hb : (v == y) = false := by rw [beq_eq_false_iff_ne]; exact fun h => hv h.symm
        clear hv
        go_wp2_with fail
        refine ⟨⟨k + 1, by omega, by go_num, KW.out, fun j z hj hz => ?_⟩, by simp [intOf]; omega⟩
        rcases Nat.lt_or_ge j k with h | h
        · exact HNO.out j z h hz
        · obtain rfl : j = k := by omega
          rw [Option.some.inj (hz.symm.trans HY.out)]
          exact HV.out
    · obtain rfl : k = n := by omega
      have HC : Hid (decide ((0 : Int) ≤ -1) = l.contains v) := Lib.hid (by
        have h1 : l.contains v = false := by
          cases hc : l.contains v with
          | false => rfl
          | true =>
            rw [List.contains_iff_mem] at hc
            obtain ⟨j, hj⟩ := List.mem_iff_getElem?.1 hc
            exact absurd rfl (HNO.out j v (by rw [← HL.out]; exact (List.getElem?_eq_some_iff.1 hj).1) hj)
        rw [h1]; rfl)
      have KW := Lib.hid kw
      clear kw hk hlt
      go_wp2_with fail
      go_ret
      exact ⟨-1, rfl, HC.out, KW.out⟩
theorem contains_i (a : Option Addr) (n c : Nat) (l : List Int) (v : Int) (w : World) (h : Sl 1 encI w a n l) (hn : n ≤ 4000000000000000000) :
    Calls Tryz.prog 137 #[.slice a n c, .int .i64 v] w fun e w' => e = .returned (.bool (l.contains v)) ∧ Ex w w' := by
  go_enter Tryz.func137, Tryz.ntmps137
  go_wp2_with fail
  (with_reducible refine (index_i _ _ _ _ _ _ h hn).mono ?_)
  rintro e w1 ⟨r, rfl, hr, kk⟩
  have HR := Lib.hid hr
  clear h hr
  go_wp2_with fail
  go_ret
  exact ⟨by rw [← HR.out]; rfl, kk⟩
end Go.Proofs.YtbnbjiddffihoaaGreatDoor

/- Contacts, gaps and the peers that know them, in plain Lean. -/
namespace Go.Proofs.YtbnbjiddffihoaaGreatDoor
open Go.RowKit

section
variable {N : List Nd}
end
end Go.Proofs.YtbnbjiddffihoaaGreatDoor

/- Has and Ordered and Gap of the reference. -/
namespace Go.Proofs.YtbnbjiddffihoaaGreatDoor
open Go.RowKit

def OiPost (l : List Int) (w : World) (e : Ending) (w' : World) : Prop := ∃ v, e = .returned v ∧ OwnL 1 encI 3 w.heap.size w' v l ∧ Ex w w'
def HasRel (l : List Int) (v : Int) (n : Nat) (w : World) (i : Value) (wr : World) : Prop :=
  ∃ k : Nat, k ≤ n ∧ i = .int .i64 k ∧ Ex w wr ∧ ∀ j z, j < k → l[j]? = some z → z ≠ v
set_option maxHeartbeats 1000000 in
theorem has_r (a : Option Addr) (n c : Nat) (l : List Int) (v : Int) (w : World) (h : Sl 1 encI w a n l) (hn : n ≤ 4000000000000000000) :
    Calls Tryz.prog 117 #[.slice a n c, .int .i64 v] w fun e w' => e = .returned (.bool (l.contains v)) ∧ Ex w w' := by
  have HL := Lib.hid h.len
  have hs := Lib.hid h
  clear h
  go_enter Tryz.func117, Tryz.ntmps117
  go_wp2_with fail
  go_loopw [5] (fun i wr => HasRel l v n w i wr) (fun i _ => n - (intOf i).toNat)
  case atStart => exact ⟨0, by omega, rfl, Ex.refl _, by intro j z h; omega⟩
  case round =>
    obtain ⟨k, hk, rfl, kw, hno⟩ := hrel
    have HNO := Lib.hid hno
    clear hno
    obtain ⟨wo, rfl⟩ : ∃ wo : World, wo = wr := ⟨_, rfl⟩
    by_cases hlt : k < n
    · obtain ⟨x1, o1, y, rfl, hx1, hy, hc1⟩ := (hs.out.nx kw).at hlt
      have e0 : wo.cell? ⟨x1, o1 + k, none⟩ = some (.int .i64 y) := by simpa using hc1 0 _ rfl
      have HY := Lib.hid hy
      have KW := Lib.hid kw
      clear hc1 hy kw
      by_cases hv : y = v
      · have HC : Hid (l.contains v = true) := Lib.hid (by rw [List.contains_iff_mem, ← hv]; exact List.mem_of_getElem? HY.out)
        have hb : (y == v) = true := by rw [hv]; simp
        clear hv
        go_wp2_with fail
        go_ret
        exact ⟨by rw [HC.out]; rfl, KW.out⟩
      · have HV := Lib.hid hv
        have hb : (y == v) = false := by rw [beq_eq_false_iff_ne]; exact hv
        clear hv
        go_wp2_with fail
        refine ⟨⟨k + 1, by omega, by go_num, KW.out, fun j z hj hz => ?_⟩, by simp [intOf]; omega⟩
        rcases Nat.lt_or_ge j k with h | h
        · exact HNO.out j z h hz
        · obtain rfl : j = k := by omega
          rw [Option.some.inj (hz.symm.trans HY.out)]
          exact HV.out
    · obtain rfl : k = n := by omega
      have HC : Hid (l.contains v = false) := Lib.hid (by
        cases hc : l.contains v with
        | false => rfl
        | true =>
          rw [List.contains_iff_mem] at hc
          obtain ⟨j, hj⟩ := List.mem_iff_getElem?.1 hc
          exact absurd rfl (HNO.out j v (by have := (List.getElem?_eq_some_iff.1 hj).1; rw [← HL.out]; exact this) hj))
      have KW := Lib.hid kw
      clear hk hlt kw
      go_wp2_with fail
      go_ret
      exact ⟨by rw [HC.out]; rfl, KW.out⟩

def ordP (l : List Int) (but : Int) (y : Nd) : Bool := !(y.id == but) && l.contains y.id
def OrdRel (S : List Nd) (l : List Int) (but : Int) (w : World) (o i : Value) (wr : World) : Prop :=
  ∃ j : Nat, j ≤ S.length ∧ i = .int .i64 j ∧ OwnL 1 encI 3 w.heap.size wr o (((S.take j).filter (ordP l but)).map Nd.id) ∧ Ex w wr
theorem ord_snoc {S : List Nd} {l : List Int} {but : Int} {j : Nat} {y : Nd} (hy : S[j]? = some y) :
    ((S.take (j + 1)).filter (ordP l but)).map Nd.id = ((S.take j).filter (ordP l but)).map Nd.id ++ (if ordP l but y = true then [y.id] else []) := by
  rw [List.take_add_one, hy, List.filter_append, List.map_append]
  congr 1
  by_cases hp : ordP l but y = true
  · rw [if_pos hp]; simp [hp]
  · rw [if_neg hp]; simp [hp]
set_option maxRecDepth 100000 in
set_option maxHeartbeats 2000000 in
theorem ordered_r (a : Option Addr) (n c : Nat) (N : List Nd) (a2 : Option Addr) (n2 c2 : Nat) (l : List Int) (but : Int) (w : World) (h : Sl 3 encN w a n N) (hn : n ≤ 1000) (h2 : Sl 1 encI w a2 n2 l) (hn2 : n2 ≤ 4000000000000000000) :
    Calls Tryz.prog 79 #[.slice a n c, .slice a2 n2 c2, .int .i64 but] w (OiPost (ordN N l but) w) := by
  have hNn : N.length ≤ 1000 := by have := h.len; omega
  go_enter Tryz.func79, Tryz.ntmps79
  go_wp2_with fail
  (with_reducible refine (sort_r _ _ _ _ _ h hn).mono ?_)
  rintro e w1 ⟨a1, n1, c1, rfl, own1, kk⟩
  replace h2 := h2.nx kk
  have S1 : Sl 3 encN w1 a1 n1 (sortN N) := Slf.sl own1
  have hn1 : n1 = (sortN N).length := S1.len.symm
  subst hn1
  have hSl : (sortN N).length ≤ 1000 := by rw [sortN_length]; exact hNn
  have ES : Hid (ordN N l but = ((sortN N).filter (ordP l but)).map Nd.id) := Lib.hid rfl
  generalize sortN N = S at S1 hSl ES own1 ⊢
  have S1 := Lib.hid S1
  have H2 := Lib.hid h2
  have K1 : Hid (Ex w w1) := Lib.hid kk
  have hz1 := kk.size
  clear h own1 h2 kk hNn hn
  go_wp2_with fail
  go_loopw [7, 9] (fun o i wr => OrdRel S l but w1 o i wr) (fun _ i _ => S.length - (intOf i).toNat)
  case atStart => exact ⟨0, by omega, rfl, OwnL.nil _ _ _ _ _, Ex.refl _⟩
  case round =>
    obtain ⟨j, hj, rfl, own, ki⟩ := hrel
    obtain ⟨wi, rfl⟩ : ∃ wi : World, wi = wr := ⟨_, rfl⟩
    by_cases hjm : j < S.length
    · obtain ⟨x3, o3, y, rfl, hx3, hy, hc3⟩ := (S1.out.nx ki).at hjm
      have e0 : wi.cell? ⟨x3, o3 + j * 3, none⟩ = some (.int .i64 y.id) := hc3 0 _ rfl
      have SN := Lib.hid (ord_snoc (l := l) (but := but) hy)
      have hrl : (((S.take j).filter (ordP l but)).map Nd.id).length ≤ 1000 := by
        rw [List.length_map]
        have := List.length_filter_le (ordP l but) (S.take j)
        rw [List.length_take] at this
        omega
      generalize ((S.take j).filter (ordP l but)).map Nd.id = row at own SN hrl
      have OWN := Lib.hid own
      have KI := Lib.hid ki
      have zb := ki.size
      clear hy hc3 own ki
      by_cases hb : y.id = but
      · have hq : (y.id != but) = false := by simp [hb]
        have hq2 : (y.id == but) = true := by simp [hb]
        have PF : Hid (ordP l but y = false) := Lib.hid (by unfold ordP; rw [hq2]; rfl)
        clear hb
        go_wp2_with fail
        exact ⟨⟨j + 1, by omega, by go_num, by rw [SN.out, PF.out]; simpa using OWN.out, KI.out⟩, by simp [intOf]; omega⟩
      · have hq : (y.id != but) = true := by simpa using hb
        have hq2 : (y.id == but) = false := by simpa using hb
        clear hb
        go_wp2_with fail
        (with_reducible refine (has_r _ _ _ _ y.id _ (H2.out.nx KI.out) hn2).mono ?_)
        rintro e w5 ⟨rfl, kk⟩
        have K5 := Lib.hid kk
        have e5 : w5.cell? ⟨x3, o3 + j * 3, none⟩ = some (.int .i64 y.id) := Chg.cellv kk e0 hx3
        have own5 := OWN.out.nx kk
        have k5 := KI.out.nx kk
        have hx5 := Nat.lt_of_lt_of_le hx3 kk.size
        have zb5 := k5.size
        have PB : Hid (ordP l but y = l.contains y.id) := Lib.hid (by unfold ordP; rw [hq2]; rfl)
        clear kk e0
        generalize l.contains y.id = inl at PB ⊢
        cases inl with
        | false =>
          have K5' := Lib.hid k5
          have O5' := Lib.hid own5
          clear k5 own5
          go_wp2_with fail
          exact ⟨⟨j + 1, by omega, by go_num, by rw [SN.out, PB.out]; simpa using O5'.out, K5'.out⟩, by simp [intOf]; omega⟩
        | true =>
          generalize y.id = yi at SN e5 hq hq2 ⊢
          go_wp2_with (at_builtin; (refine wpList_append_lit (enc := encI) w5 rfl _ _ 22 rfl w1.heap.size 3 (.int .i64 0) 1 8 Tryz.underlying22 Tryz.infoI6 rfl (by omega) (by omega) _ _ own5 rfl (yi : Int) _ rfl rfl (by simp [encI, Value.oneCell']) _ (by simp) rfl (by omega) zb5 _ ?_); intro v6 w6 own6 _ ch1 _)
          refine ⟨⟨j + 1, by omega, by go_num, by rw [SN.out, PB.out]; exact own6, Chg.trans k5 ch1⟩, by simp [intOf]; omega⟩
    · obtain rfl : j = S.length := by omega
      rw [List.take_of_length_le (by omega)] at own
      have own := Lib.hid (own.base hz1)
      have KE := Lib.hid (K1.out.nx ki)
      clear hj hjm ki
      go_wp2_with fail
      go_ret
      exact ⟨_, rfl, by rw [ES.out]; exact own.out, KE.out⟩

end Go.Proofs.YtbnbjiddffihoaaGreatDoor

/- A set of numbers that the call itself has made: map[int]bool. -/
namespace Go.Proofs.YtbnbjiddffihoaaGreatDoor
open Go.RowKit Go.Maps

abbrev keyI (v : Int) : Lit := .int .i64 v
def SetM (P : Program) (k e : TypeId) (w : World) (b : Nat) (S : List Int) : Prop :=
  w.ownsMap (H := Unit) P k (plainElem P e) b S.length (setOf (.lit (.bool true)) (S.map keyI))
section
variable {P : Program} {k e t : TypeId} {w w' : World} {b : Nat} {S : List Int}
theorem SetM.made (w : World) (P : Program) (k e : TypeId) : SetM P k e (w.alloc (.map #[] 0)) w.heap.size [] := World.ownsMap_made _ _ _ _
theorem SetM.lt (h : SetM P k e w b S) : b < w.heap.size := World.ownsMap.lt h
theorem SetM.same (h : SetM P k e w b S) (hh : w'.heap[b]? = w.heap[b]?) : SetM P k e w' b S := by
  obtain ⟨es, clock, hb, r⟩ := h
  exact ⟨es, clock, hh.trans hb, r⟩
theorem SetM.nx (h : SetM P k e w b S) (kk : Ex w w') : SetM P k e w' b S := h.same (kk.block b h.lt)
theorem SetM.nxb {c : Nat} (h : SetM P k e w b S) (hc : b ≠ c) (kk : Exb c w w') : SetM P k e w' b S := h.same (kk.block b ⟨h.lt, hc⟩)
theorem key_lit (v : Int) : WideAt.IsKeyLit (keyI v) := by
  unfold keyI WideAt.IsKeyLit
  trivial
theorem set_atKey (S : List Int) (v : Int) : (setOf (H := Unit) (.lit (.bool true)) (S.map keyI)).atKey (keyI v) (.lit (.bool false)) = .lit (.bool (S.contains v)) := by
  have key : ∀ n, ∀ S : List Int, S.length = n → (setOf (H := Unit) (.lit (.bool true)) (S.map keyI)).atKey (keyI v) (.lit (.bool false)) = .lit (.bool (S.contains v)) := by
    intro n
    induction n with
    | zero =>
      intro S h
      rw [List.length_eq_zero_iff.1 h]
      rfl
    | succ n ih =>
      intro S h
      rcases List.eq_nil_or_concat S with rfl | ⟨S', x, rfl⟩
      · cases h
      · rw [List.concat_eq_append] at h ⊢
        have hi := ih S' (by simpa using h)
        rw [List.map_append, List.map_singleton, setOf_snoc]
        by_cases hx : v = x
        · subst hx
          rw [atKey_put_same (tidy_setOf _ _ (by intro y hy; obtain ⟨z, _, rfl⟩ := List.mem_map.1 hy; exact key_lit z)).isMap (key_lit v)]
          simp
        · rw [atKey_put_other (by simpa [keyI] using hx), hi]
          congr 2
          rw [Bool.eq_iff_iff]
          simp [hx]
  exact key _ S rfl
theorem plainElem_bool_inv (he : P.underlying e = some .bool) {v : Value} {x : Bool} {ps : List MemPlace} (h : plainElem (H := Unit) P e v = some (.lit (.bool x), ps)) : v = .bool x := by
  unfold plainElem at h
  rw [he] at h
  cases v <;> simp at h
  rw [h.1]
theorem SetM.get (h : SetM P k e w b S) (hk : P.underlying k = some (.int .i64)) (he : P.underlying e = some .bool) (ht : P.underlying t = some (.map k e)) (hz : (zeroValue e).run P w = .ok (.bool false) w) {v : Int} (hv : (Lit.int .i64 v).wf = true) :
    (Instr.lookup t (.map (some b)) (.int .i64 v) false).run P w = .ok (.bool (S.contains v)) w := by
  obtain ⟨u, ps, hrun, hR⟩ := World.ownsMap.lookup (t := t) (e := e) h (int_keyed hk) ht hz (plainElem_bool he false) (keyOf_int_mk hk hv)
  rw [set_atKey] at hR
  rw [hrun, plainElem_bool_inv he hR]
theorem turned_exb (h : w.mapTurned w' b) : Exb b w w' := by
  have g := h.grown
  exact ⟨g.os, g.tape, g.output, g.size, fun k hk => g.block k hk.1 (by simpa using hk.2)⟩
theorem SetM.put (h : SetM P k e w b S) (hk : P.underlying k = some (.int .i64)) (he : P.underlying e = some .bool) (ht : P.underlying t = some (.map k e)) (hS : S.length < 1000000) {v : Int} (hv : (Lit.int .i64 v).wf = true) :
    ∃ w', (Instr.mapUpdate t (.map (some b)) (.int .i64 v) (.bool true)).run P w = .ok () w' ∧ SetM P k e w' b (S ++ [v]) ∧ Exb b w w' ∧ w'.heap.size = w.heap.size := by
  obtain ⟨w', hrun, ho, ht'⟩ := World.ownsMap.store (t := t) (e := e) h (int_keyed hk) ht (by unfold maxLen; omega) (keyOf_int_mk hk hv) (plainElem_bool he true)
  refine ⟨w', hrun, ?_, turned_exb ht', ?_⟩
  · unfold SetM
    rw [List.map_append, List.map_singleton, setOf_snoc, List.length_append, List.length_singleton]
    exact ho
  · obtain ⟨es, clock, es', clock', hb, rfl⟩ := ht'
    simp [Go.ChangeMaps.setBlock]
theorem set_size (hS : S.Nodup) : size (setOf (H := Unit) (.lit (.bool true)) (S.map keyI)) = S.length := by
  have key : ∀ n, ∀ S : List Int, S.length = n → S.Nodup → size (setOf (H := Unit) (.lit (.bool true)) (S.map keyI)) = S.length := by
    intro n
    induction n with
    | zero =>
      intro S h _
      rw [List.length_eq_zero_iff.1 h]
      rfl
    | succ n ih =>
      intro S h hS
      rcases List.eq_nil_or_concat S with rfl | ⟨S', x, rfl⟩
      · cases h
      · rw [List.concat_eq_append] at h hS ⊢
        have hk : ∀ y ∈ S'.map keyI, WideAt.IsKeyLit y := by intro y hy; obtain ⟨z, _, rfl⟩ := List.mem_map.1 hy; exact key_lit z
        rw [List.map_append, List.map_singleton, setOf_snoc, size_put (tidy_setOf _ _ hk), has_setOf _ _ _ hk, ih S' (by simpa using h) (List.nodup_append.1 hS).1, if_neg]
        · simp
        · intro hc
          obtain ⟨y, hy, hyx⟩ := List.any_eq_true.1 hc
          obtain ⟨z, hz, rfl⟩ := List.mem_map.1 hy
          have : z = x := by
            by_cases hzx : z = x
            · exact hzx
            · rw [sameKey_ne (by simpa [keyI] using hzx)] at hyx; cases hyx
          exact (List.nodup_append.1 hS).2.2 z hz x (by simp) this
  exact key _ S rfl hS
theorem SetM.len (h : SetM P k e w b S) (ht : P.underlying t = some (.map k e)) (hS : S.Nodup) (ty : TypeId) : (Builtin.len_ #[t] ty #[.map (some b)]).run P w = .ok (.int .i64 S.length) w := by
  rw [World.ownsMap.len h ht ty, set_size hS]
end
end Go.Proofs.YtbnbjiddffihoaaGreatDoor

/- Gap, ascending, and the place of a node in a list, of the package redundant. -/
namespace Go.Proofs.YtbnbjiddffihoaaGreatDoor
open Go.RowKit Go.Maps

theorem sorted_own {l : List Nd} {base : Nat} {w : World} {v : Value} (h0 : checkN l = 0) (own : OwnL 3 encN 57 base w v (sortN l)) :
    ∃ a c, v = .slice a l.length c ∧ Sl 3 encN w a l.length (sortN l) ∧ l.length ≤ c ∧ c ≤ maxLen := by
  obtain ⟨a, c, e, r, h1, h2, _⟩ := own.rd (fun _ => rfl)
  rw [sortN_length] at e r h1
  exact ⟨a, c, e, r.mono (fun _ hk => hk.2), h1, h2⟩
end Go.Proofs.YtbnbjiddffihoaaGreatDoor

/- What a loop of a law keeps. -/
namespace Go.Proofs.YtbnbjiddffihoaaGreatDoor
open Go.RowKit

theorem TabG.nxb {b : Nat} {w w' : World} (h : TabG w) (hb : ¬ 1 = b) (k : Exb b w w') : TabG w' := h.chg k ⟨h.lt, hb⟩
def CtRel (b n : Nat) (w : World) (i : Value) (wr : World) : Prop := ∃ k : Nat, k ≤ n ∧ i = .int .i64 k ∧ Exb b w wr ∧ TK wr b
end Go.Proofs.YtbnbjiddffihoaaGreatDoor

/- Contacts of the package redundant. -/
namespace Go.Proofs.YtbnbjiddffihoaaGreatDoor
open Go.RowKit Go.Maps

theorem check_len {N : List Nd} (h0 : checkN N = 0) : N.length ≤ 64 := by
  unfold checkN at h0
  split at h0
  · cases h0
  · omega
end Go.Proofs.YtbnbjiddffihoaaGreatDoor

/- names and Refs of the package redundant. -/
namespace Go.Proofs.YtbnbjiddffihoaaGreatDoor
open Go.RowKit

theorem cont4 (y : Nr) (id : Int) : (nums4 y).contains id = (y.1 == id || y.2.1 == id || y.2.2.1 == id || y.2.2.2 == id) := by
  unfold nums4
  rw [Bool.eq_iff_iff]
  simp only [List.contains_iff_mem, List.mem_cons, List.not_mem_nil, or_false, Bool.or_eq_true, beq_iff_eq]
  omega
set_option maxHeartbeats 1000000 in
theorem names1_p (gx : Nat) (id : Int) (y : Nr) (w : World) (hx : Blk w gx [.int .i64 id] 3) :
    Calls Tryz.prog 136 #[.agg #[.int .i64 y.1, .int .i64 y.2.1, .int .i64 y.2.2.1, .int .i64 y.2.2.2], .pointer (some ⟨gx, 0, none⟩)] w fun e w' => e = .returned (.bool ((nums4 y).contains id)) ∧ Ex w w' := by
  have hg := hx.lt
  have EX := Ex.refl w
  have CN := Lib.hid (cont4 y id)
  have B2 := Blk.new w [.int .i64 y.1, .int .i64 y.2.1, .int .i64 y.2.2.1, .int .i64 y.2.2.2] 49
  have kk := Ex.new w (.cells #[.int .i64 y.1, .int .i64 y.2.1, .int .i64 y.2.2.1, .int .i64 y.2.2.2] 49)
  obtain ⟨w1, hw1⟩ : ∃ w1, w1 = w.alloc (.cells #[.int .i64 y.1, .int .i64 y.2.1, .int .i64 y.2.2.1, .int .i64 y.2.2.2] 49) := ⟨_, rfl⟩
  obtain ⟨g2, hg2⟩ : ∃ g2, g2 = w.heap.size := ⟨_, rfl⟩
  replace B2 : Blk w1 g2 [.int .i64 y.1, .int .i64 y.2.1, .int .i64 y.2.2.1, .int .i64 y.2.2.2] 49 := by rw [hw1, hg2]; exact B2
  rw [← hw1] at kk
  have Hw1 := Lib.hid hw1
  have Hg2 := Lib.hid hg2
  replace hx := hx.nx kk
  replace EX := EX.nx kk
  clear kk hw1 hg2
  go_enter Tryz.func136, Tryz.ntmps136
  go_upto_region 1 with fail
  rw [← Hg2.out, ← Hw1.out]
  clear Hg2 Hw1
  have q0 := hx.cell 0 _ rfl
  have p0 := B2.cell 0 _ rfl
  have p1 := B2.cell 1 _ rfl
  have p2 := B2.cell 2 _ rfl
  have p3 := B2.cell 3 _ rfl
  clear hx B2
  generalize hc1 : (y.1 == id) = c1 at CN
  generalize hc2 : (y.2.1 == id) = c2 at CN
  generalize hc3 : (y.2.2.1 == id) = c3 at CN
  generalize hc4 : (y.2.2.2 == id) = c4 at CN
  cases c1 with
  | true =>
    go_wp2_with fail
    go_ret
    exact ⟨by rw [CN.out]; rfl, EX⟩
  | false =>
    cases c2 with
    | true =>
      go_wp2_with fail
      go_ret
      exact ⟨by rw [CN.out]; rfl, EX⟩
    | false =>
      cases c3 with
      | true =>
        go_wp2_with fail
        go_ret
        exact ⟨by rw [CN.out]; rfl, EX⟩
      | false =>
        go_wp2_with fail
        go_ret
        exact ⟨by rw [CN.out]; rfl, EX⟩
def NmfRel (id : Int) (l : List Nr) (n : Nat) (w : World) (i : Value) (wr : World) : Prop :=
  ∃ k : Nat, k ≤ n ∧ i = .int .i64 k ∧ Ex w wr ∧ ∀ j z, j < k → l[j]? = some z → (nums4 z).contains id = false
set_option maxRecDepth 100000 in
set_option maxHeartbeats 2000000 in
theorem idxf_nr (gx : Nat) (id : Int) (a : Option Addr) (n c : Nat) (l : List Nr) (w : World) (h : Sl 4 encNr w a n l) (hn : n ≤ 4000000000000000000) (hx : Blk w gx [.int .i64 id] 3) :
    Calls Tryz.prog 155 #[.slice a n c, .func (.func 136) #[] #[.pointer (some ⟨gx, 0, none⟩)]] w fun e w' => ∃ r : Int, e = .returned (.int .i64 r) ∧ decide (0 ≤ r) = (l.flatMap nums4).contains id ∧ Ex w w' := by
  have HL := Lib.hid h.len
  have HX := Lib.hid hx
  have hs := Lib.hid h
  have eg : ∀ args w, (callFunc 136 args).run Tryz.prog w = .ok (.enter 136 args) w := enters_of Tryz.func136 (by kernel_rfl) rfl
  clear h hx
  go_enter Tryz.func155, Tryz.ntmps155
  go_wp2
  go_loopw [8] (fun i wr => NmfRel id l n w i wr) (fun i _ => n - (intOf i).toNat)
  case atStart => exact ⟨0, by omega, rfl, Ex.refl _, by intro j z h; omega⟩
  case round =>
    obtain ⟨k, hk, rfl, kw, hno⟩ := hrel
    have HNO := Lib.hid hno
    clear hno
    obtain ⟨wo, rfl⟩ : ∃ wo : World, wo = wr := ⟨_, rfl⟩
    by_cases hlt : k < n
    · obtain ⟨x1, o1, y, rfl, hx1, hy, hc1⟩ := (hs.out.nx kw).at hlt
      have e0 : wo.cell? ⟨x1, o1 + k * 4, none⟩ = some (.int .i64 y.1) := hc1 0 _ rfl
      have e1 : wo.cell? ⟨x1, o1 + k * 4 + 1, none⟩ = some (.int .i64 y.2.1) := hc1 1 _ rfl
      have e2 : wo.cell? ⟨x1, o1 + k * 4 + 1 + 1, none⟩ = some (.int .i64 y.2.2.1) := by simpa [Nat.add_assoc] using hc1 2 _ rfl
      have e3 : wo.cell? ⟨x1, o1 + k * 4 + 1 + 1 + 1, none⟩ = some (.int .i64 y.2.2.2) := by simpa [Nat.add_assoc] using hc1 3 _ rfl
      have HY := Lib.hid hy
      have HB := Lib.hid (HX.out.nx kw)
      have KW := Lib.hid kw
      clear hc1 hy kw
      go_wp2_with fail
      (with_reducible refine (names1_p gx id y _ HB.out).mono ?_)
      rintro e w2 ⟨rfl, k2⟩
      have K2 := Lib.hid (KW.out.nx k2)
      clear k2 e0 e1 e2 e3
      cases hb : (nums4 y).contains id with
      | true =>
        have HI : Hid ((l.flatMap nums4).contains id = true) := Lib.hid (by
          rw [List.contains_iff_mem, List.mem_flatMap]
          exact ⟨y, List.mem_of_getElem? HY.out, List.contains_iff_mem.1 hb⟩)
        clear hb
        go_wp2_with fail
        go_ret
        exact ⟨_, rfl, by rw [HI.out]; simp, K2.out⟩
      | false =>
        have HB := Lib.hid hb
        clear hb
        go_wp2_with fail
        refine ⟨⟨k + 1, by omega, by go_num, K2.out, fun j z hj hz => ?_⟩, by simp [intOf]; omega⟩
        rcases Nat.lt_or_ge j k with h | h
        · exact HNO.out j z h hz
        · obtain rfl : j = k := by omega
          rw [Option.some.inj (hz.symm.trans HY.out)]
          exact HB.out
    · obtain rfl : k = n := by omega
      have HI : Hid ((l.flatMap nums4).contains id = false) := Lib.hid (by
        rw [Bool.eq_false_iff]
        intro hc
        rw [List.contains_iff_mem, List.mem_flatMap] at hc
        obtain ⟨y, hy, hm⟩ := hc
        obtain ⟨j, hj⟩ := List.mem_iff_getElem?.1 hy
        have := HNO.out j y (by rw [← HL.out]; exact (List.getElem?_eq_some_iff.1 hj).1) hj
        rw [List.contains_iff_mem.2 hm] at this
        cases this)
      have KW := Lib.hid kw
      clear kw hk hlt
      go_wp2_with fail
      go_ret
      exact ⟨-1, rfl, by rw [HI.out]; rfl, KW.out⟩
theorem contf_nr (gx : Nat) (id : Int) (a : Option Addr) (n c : Nat) (l : List Nr) (w : World) (h : Sl 4 encNr w a n l) (hn : n ≤ 4000000000000000000) (hx : Blk w gx [.int .i64 id] 3) :
    Calls Tryz.prog 138 #[.slice a n c, .func (.func 136) #[] #[.pointer (some ⟨gx, 0, none⟩)]] w fun e w' => e = .returned (.bool ((l.flatMap nums4).contains id)) ∧ Ex w w' := by
  go_enter Tryz.func138, Tryz.ntmps138
  go_wp2_with fail
  (with_reducible refine (idxf_nr gx id _ _ _ _ _ h hn hx).mono ?_)
  rintro e w1 ⟨r, rfl, hr, kk⟩
  have HR := Lib.hid hr
  clear h hx hr
  go_wp2_with fail
  go_ret
  exact ⟨by rw [← HR.out]; rfl, kk⟩

theorem cont_nums (p : Pr) (id : Int) : (numsP p).contains id = (p.left == id || p.right == id || p.known.contains id || (p.near.flatMap nums4).contains id) := by
  unfold numsP
  rw [Bool.eq_iff_iff]
  simp only [List.contains_iff_mem, List.mem_append, List.mem_cons, List.not_mem_nil, or_false, Bool.or_eq_true, beq_iff_eq]
  constructor
  · rintro ((h | h | h) | h)
    · exact .inl (.inr h)
    · exact .inl (.inl (.inl h.symm))
    · exact .inl (.inl (.inr h.symm))
    · exact .inr h
  · rintro (((h | h) | h) | h)
    · exact .inl (.inr (.inl h.symm))
    · exact .inl (.inr (.inr h.symm))
    · exact .inl (.inl h)
    · exact .inr h
set_option maxHeartbeats 2000000 in
theorem names_p (p : Pr) (a1 : Option Addr) (n1 c1 : Nat) (a2 : Option Addr) (n2 c2 : Nat) (id : Int) (w : World) (h1 : Sl 1 encI w a1 n1 p.known) (h2 : Sl 4 encNr w a2 n2 p.near) (hn1 : n1 ≤ 4000000000000000000) (hn2 : n2 ≤ 4000000000000000000) :
    Calls Tryz.prog 116 #[.agg #[.int .i64 p.id, .slice a1 n1 c1, .int .i64 p.left, .int .i64 p.right, .slice a2 n2 c2], .int .i64 id] w fun e w' => e = .returned (.bool ((numsP p).contains id)) ∧ Ex w w' := by
  have EX := Ex.refl w
  have CN := Lib.hid (cont_nums p id)
  obtain ⟨g2, hg2⟩ : ∃ g2, g2 = w.heap.size := ⟨_, rfl⟩
  obtain ⟨g3, hg3⟩ : ∃ g3, g3 = (w.heap.size + 1) := ⟨_, rfl⟩
  obtain ⟨w1, hw1⟩ : ∃ w1, w1 = ((w.alloc (.cells #[.int .i64 p.id, .slice a1 n1 c1, .int .i64 p.left, .int .i64 p.right, .slice a2 n2 c2] 45)).alloc (.cells #[.int .i64 id] 3)) := ⟨_, rfl⟩
  have kk : Ex w w1 := by rw [hw1]; exact (((Ex.refl w).alloc (.cells #[.int .i64 p.id, .slice a1 n1 c1, .int .i64 p.left, .int .i64 p.right, .slice a2 n2 c2] 45)).alloc (.cells #[.int .i64 id] 3))
  have B2 : Blk w1 g2 [.int .i64 p.id, .slice a1 n1 c1, .int .i64 p.left, .int .i64 p.right, .slice a2 n2 c2] 45 := by rw [hw1]; simp only [hg2, hg3]; have hbk := ((Blk.new w [.int .i64 p.id, .slice a1 n1 c1, .int .i64 p.left, .int .i64 p.right, .slice a2 n2 c2] 45).nx (Ex.new _ (.cells #[.int .i64 id] 3))); simpa using hbk
  have B3 : Blk w1 g3 [.int .i64 id] 3 := by rw [hw1]; simp only [hg2, hg3]; have hbk := (Blk.new (w.alloc (.cells #[.int .i64 p.id, .slice a1 n1 c1, .int .i64 p.left, .int .i64 p.right, .slice a2 n2 c2] 45)) [.int .i64 id] 3); simpa using hbk
  have Hw1 := Lib.hid hw1
  have Hg2 := Lib.hid hg2
  have Hg3 := Lib.hid hg3
  replace h1 := h1.nx kk
  replace h2 := h2.nx kk
  replace EX := EX.nx kk
  clear kk hw1 hg2 hg3
  go_enter Tryz.func116, Tryz.ntmps116
  go_upto_region 2 with fail
  rw [← Hw1.out, ← Hg3.out, ← Hg2.out]
  clear Hw1 Hg3 Hg2
  have p1 := B2.cell 1 _ rfl
  have p2 := B2.cell 2 _ rfl
  have p3 := B2.cell 3 _ rfl
  have p4 := B2.cell 4 _ rfl
  have q0 := B3.cell 0 _ rfl
  have S1 := Lib.hid h1
  have S2 := Lib.hid h2
  replace B2 := Lib.hid B2
  replace B3 := Lib.hid B3
  clear h1 h2
  generalize hc1 : (p.left == id) = b1 at CN
  generalize hc2 : (p.right == id) = b2 at CN
  cases b1 with
  | true =>
    go_wp2_with fail
    go_ret
    exact ⟨by rw [CN.out]; rfl, EX⟩
  | false =>
    cases b2 with
    | true =>
      go_wp2_with fail
      go_ret
      exact ⟨by rw [CN.out]; rfl, EX⟩
    | false =>
      go_wp2_with fail
      (with_reducible refine (contains_i _ _ _ _ id _ S1.out hn1).mono ?_)
      rintro e w2 ⟨rfl, kk⟩
      replace EX := EX.nx kk
      generalize hc3 : p.known.contains id = b3 at CN
      have p4 := (B2.out.nx kk).cell 4 _ rfl
      have S2 := Lib.hid (S2.out.nx kk)
      have B3 := Lib.hid (B3.out.nx kk)
      clear kk p1 p2 p3 q0
      cases b3 with
      | true =>
        go_wp2_with fail
        go_ret
        exact ⟨by rw [CN.out]; rfl, EX⟩
      | false =>
        go_wp2_with fail
        (with_reducible refine (contf_nr g3 id _ _ _ _ _ S2.out hn2 B3.out).mono ?_)
        rintro e w3 ⟨rfl, kk⟩
        replace EX := EX.nx kk
        clear kk
        generalize hc4 : (p.near.flatMap nums4).contains id = b4 at CN
        have CN : Hid ((numsP p).contains id = b4) := Lib.hid (by rw [CN.out]; rfl)
        clear p4
        go_wp2_with fail
        go_ret
        exact ⟨by rw [CN.out]; rfl, EX⟩

set_option maxRecDepth 100000 in
set_option maxHeartbeats 4000000 in
theorem refs_p (a : Option Addr) (n c : Nat) (N : List Nd) (p : Pr) (a1 : Option Addr) (n1 c1 : Nat) (a2 : Option Addr) (n2 c2 : Nat) (w : World) (h : Sl 3 encN w a n N) (hn : n ≤ 1000) (hc : n ≤ c) (hm : c ≤ maxLen) (h1 : Sl 1 encI w a1 n1 p.known) (h2 : Sl 4 encNr w a2 n2 p.near) (hn1 : n1 ≤ 4000000000000000000) (hn2 : n2 ≤ 4000000000000000000) :
    Calls Tryz.prog 78 #[.slice a n c, .agg #[.int .i64 p.id, .slice a1 n1 c1, .int .i64 p.left, .int .i64 p.right, .slice a2 n2 c2]] w (OiPost (refsN N p) w) := by
  have HL := Lib.hid h.len
  have EX := Ex.refl w
  have B3 := Blk.new w [.int .i64 p.id, .slice a1 n1 c1, .int .i64 p.left, .int .i64 p.right, .slice a2 n2 c2] 45
  have kk := Ex.new w (.cells #[.int .i64 p.id, .slice a1 n1 c1, .int .i64 p.left, .int .i64 p.right, .slice a2 n2 c2] 45)
  obtain ⟨w1, hw1⟩ : ∃ w1, w1 = w.alloc (.cells #[.int .i64 p.id, .slice a1 n1 c1, .int .i64 p.left, .int .i64 p.right, .slice a2 n2 c2] 45) := ⟨_, rfl⟩
  obtain ⟨g3, hg3⟩ : ∃ g3, g3 = w.heap.size := ⟨_, rfl⟩
  replace B3 : Blk w1 g3 [.int .i64 p.id, .slice a1 n1 c1, .int .i64 p.left, .int .i64 p.right, .slice a2 n2 c2] 45 := by rw [hw1, hg3]; exact B3
  rw [← hw1] at kk
  have Hw1 := Lib.hid hw1
  have Hg3 := Lib.hid hg3
  replace h := h.nx kk
  replace h1 := h1.nx kk
  replace h2 := h2.nx kk
  replace EX := EX.nx kk
  clear kk hw1 hg3
  go_enter Tryz.func78, Tryz.ntmps78
  go_upto_region 1 with fail
  rw [← Hg3.out, ← Hw1.out]
  clear Hg3 Hw1
  go_wp2_with fail
  (with_reducible refine (check_p _ _ _ _ _ h (by omega) hc hm).mono ?_)
  rintro e w2 ⟨rfl, kk⟩
  replace h := h.nx kk
  replace h1 := h1.nx kk
  replace h2 := h2.nx kk
  replace EX := EX.nx kk
  replace B3 := B3.nx kk
  clear kk
  by_cases hck : checkN N = 0
  case neg =>
    have d1 : (checkN N != 0) = true := by simpa using hck
    have E0 : Hid (refsN N p = []) := Lib.hid (by unfold refsN; rw [if_neg hck])
    clear h h1 h2 hck B3
    go_wp2_with fail
    go_ret
    exact ⟨_, rfl, by rw [E0.out]; exact OwnL.nil _ _ _ _ _, EX⟩
  have d1 : (checkN N != 0) = false := by simpa using hck
  have HC := Lib.hid hck
  clear hck
  go_wp2_with fail
  (with_reducible refine (sort_p _ _ _ _ _ h hn).mono ?_)
  rintro e w3 ⟨v, S, rfl, OS, ⟨hp, hsrt⟩, kk⟩
  replace h1 := h1.nx kk
  replace h2 := h2.nx kk
  replace EX := EX.nx kk
  replace B3 := B3.nx kk
  clear kk
  have hSe : S = sortN N := sortN_unique (check_keys HC.out) hp hsrt
  subst hSe
  obtain ⟨a3, c3, rfl, S3, _, _⟩ := sorted_own HC.out OS
  rw [HL.out] at S3 ⊢
  have ES : Hid (refsN N p = ((sortN N).filter (ordP (numsP p) p.id)).map Nd.id) := Lib.hid (by unfold refsN; rw [if_pos HC.out]; rfl)
  generalize sortN N = S at S3 ES
  have HSL := Lib.hid S3.len
  replace S3 := Lib.hid S3
  have S1 := Lib.hid h1
  have S2 := Lib.hid h2
  have K1 := Lib.hid EX
  have hz1 := EX.size
  replace B3 := Lib.hid B3
  clear h h1 h2 OS EX hp hsrt
  go_wp2_with fail
  go_loopw [5, 14] (fun o i wr => OrdRel S (numsP p) p.id w3 o i wr) (fun _ i _ => n - (intOf i).toNat)
  case atStart => exact ⟨0, by omega, rfl, OwnL.nil _ _ _ _ _, Ex.refl _⟩
  case round =>
    obtain ⟨j, hj, rfl, own, ki⟩ := hrel
    obtain ⟨wi, rfl⟩ : ∃ wi : World, wi = wr := ⟨_, rfl⟩
    by_cases hjm : j < n
    · obtain ⟨x3, o3, y, rfl, hx3, hy, hc3⟩ := (S3.out.nx ki).at hjm
      have e0 : wi.cell? ⟨x3, o3 + j * 3, none⟩ = some (.int .i64 y.id) := hc3 0 _ rfl
      have e1 : wi.cell? ⟨x3, o3 + j * 3 + 1, none⟩ = some (.string y.key) := hc3 1 _ rfl
      have e2 : wi.cell? ⟨x3, o3 + j * 3 + 1 + 1, none⟩ = some (.int .u32 y.word) := by simpa [Nat.add_assoc] using hc3 2 _ rfl
      have SN := Lib.hid (ord_snoc (l := numsP p) (but := p.id) hy)
      have hrl : (((S.take j).filter (ordP (numsP p) p.id)).map Nd.id).length ≤ 1000 := by
        rw [List.length_map]
        have := List.length_filter_le (ordP (numsP p) p.id) (S.take j)
        rw [List.length_take] at this
        omega
      generalize ((S.take j).filter (ordP (numsP p) p.id)).map Nd.id = row at own SN hrl
      have KI := Lib.hid ki
      clear hy hc3 ki
      have B7 := Blk.new wi [.int .i64 y.id, .string y.key, .int .u32 y.word] 57
      have kk := Ex.new wi (.cells #[.int .i64 y.id, .string y.key, .int .u32 y.word] 57)
      obtain ⟨w7, hw7⟩ : ∃ w7, w7 = wi.alloc (.cells #[.int .i64 y.id, .string y.key, .int .u32 y.word] 57) := ⟨_, rfl⟩
      obtain ⟨g7, hg7⟩ : ∃ g7, g7 = wi.heap.size := ⟨_, rfl⟩
      replace B7 : Blk w7 g7 [.int .i64 y.id, .string y.key, .int .u32 y.word] 57 := by rw [hw7, hg7]; exact B7
      rw [← hw7] at kk
      have Hw7 := Lib.hid hw7
      have Hg7 := Lib.hid hg7
      replace own := own.nx kk
      have K7 := Lib.hid (KI.out.nx kk)
      clear kk hw7 hg7
      have Q3 := B3.out.nx K7.out
      go_upto_region 7 with fail
      rw [← Hg7.out, ← Hw7.out]
      clear Hg7 Hw7
      have q0 := B7.cell 0 _ rfl
      have p0 := Q3.cell 0 _ rfl
      clear e0 e1 e2
      by_cases hb : y.id = p.id
      · have hq : (y.id != p.id) = false := by simp [hb]
        have hq2 : (y.id == p.id) = true := by simp [hb]
        have PF : Hid (ordP (numsP p) p.id y = false) := Lib.hid (by unfold ordP; rw [hq2]; rfl)
        have OWN := Lib.hid own
        clear hb own hq2 B7 Q3
        go_wp2_with fail
        exact ⟨⟨j + 1, by rw [HSL.out]; omega, by go_num, by rw [SN.out, PF.out]; simpa using OWN.out, K7.out⟩, by simp [intOf]; omega⟩
      · have hq : (y.id != p.id) = true := by simpa using hb
        have hq2 : (y.id == p.id) = false := by simpa using hb
        have PB : Hid (ordP (numsP p) p.id y = (numsP p).contains y.id) := Lib.hid (by unfold ordP; rw [hq2]; rfl)
        have p1 := Q3.cell 1 _ rfl
        have p2 := Q3.cell 2 _ rfl
        have p3 := Q3.cell 3 _ rfl
        have p4 := Q3.cell 4 _ rfl
        clear hb hq2 Q3
        go_wp2_with fail
        (with_reducible refine (names_p p _ _ _ _ _ _ y.id _ (S1.out.nx K7.out) (S2.out.nx K7.out) hn1 hn2).mono ?_)
        rintro e w5 ⟨rfl, kk⟩
        replace own := own.nx kk
        replace B7 := B7.nx kk
        have K5 := Lib.hid (K7.out.nx kk)
        have zb5 := K5.out.size
        have q0 := B7.cell 0 _ rfl
        have OWN := Lib.hid own
        clear kk p0 p1 p2 p3 p4 own B7
        generalize (numsP p).contains y.id = inl at PB ⊢
        generalize y.id = yi at SN q0 hq
        cases inl with
        | false =>
          clear q0 hq
          go_wp2_with fail
          exact ⟨⟨j + 1, by rw [HSL.out]; omega, by go_num, by rw [SN.out, PB.out]; simpa using OWN.out, K5.out⟩, by simp [intOf]; omega⟩
        | true =>
          have own5 := OWN.out
          have hl7 : row.length ≤ 1000000 := by omega
          clear hq
          go_wp2_with (at_builtin; (refine wpList_append_lit (enc := encI) w5 rfl _ _ 22 rfl w3.heap.size 3 (.int .i64 0) 1 8 Tryz.underlying22 Tryz.infoI6 rfl (by omega) (by omega) _ _ own5 rfl (yi : Int) _ rfl rfl (by simp [encI, Value.oneCell']) _ (by simp) rfl hl7 zb5 _ ?_); intro v6 w6 own6 _ ch1 _)
          refine ⟨⟨j + 1, by rw [HSL.out]; omega, by go_num, by rw [SN.out, PB.out]; exact own6, Chg.trans K5.out ch1⟩, by simp [intOf]; omega⟩
    · obtain rfl : j = n := by have := HSL.out; omega
      rw [List.take_of_length_le (by rw [HSL.out]; exact Nat.le_refl _)] at own
      have own := Lib.hid (own.base hz1)
      have KE := Lib.hid (K1.out.nx ki)
      clear hj hjm ki
      go_wp2_with fail
      go_ret
      exact ⟨_, rfl, by rw [ES.out]; exact own.out, KE.out⟩
end Go.Proofs.YtbnbjiddffihoaaGreatDoor

/- Numbers, CopyPeer, Refs of the reference. NOT BUILT YET. -/
namespace Go.Proofs.YtbnbjiddffihoaaGreatDoor
open Go.RowKit

theorem lit2 {w u : World} (h : Ex w u) (x y : Int) : ∃ g v, g = u.heap.size ∧ v = u.alloc (.cells #[.int .i64 x, .int .i64 y] 3) ∧ Sl 1 encI v (some ⟨g, 0, none⟩) 2 [x, y] ∧ Ex u v ∧ Ex w v :=
  ⟨_, _, rfl, rfl, Sl.lit [x, y] rfl rfl (fun _ => rfl) rfl, Ex.new _ _, h.nx (Ex.new _ _)⟩
theorem lit4 {w u : World} (h : Ex w u) (y : Nr) : ∃ g v, g = u.heap.size ∧ v = u.alloc (.cells #[.int .i64 y.1, .int .i64 y.2.1, .int .i64 y.2.2.1, .int .i64 y.2.2.2] 3) ∧ Sl 1 encI v (some ⟨g, 0, none⟩) 4 (nums4 y) ∧ Ex u v ∧ Ex w v :=
  ⟨_, _, rfl, rfl, Sl.lit (nums4 y) rfl rfl (fun _ => rfl) rfl, Ex.new _ _, h.nx (Ex.new _ _)⟩
def NmCut (l : List Int) (w : World) (s : Value) (wx : World) : Prop := OwnL 1 encI 3 w.heap.size wx s l ∧ Ex w wx
def NmRel (l0 : List Int) (nr : List Nr) (w : World) (o i : Value) (wr : World) : Prop :=
  ∃ j : Nat, j ≤ nr.length ∧ i = .int .i64 j ∧ OwnL 1 encI 3 w.heap.size wr o (l0 ++ (nr.take j).flatMap nums4) ∧ Ex w wr
theorem nm_snoc {l0 : List Int} {nr : List Nr} {j : Nat} {y : Nr} (hy : nr[j]? = some y) : l0 ++ (nr.take (j + 1)).flatMap nums4 = (l0 ++ (nr.take j).flatMap nums4) ++ nums4 y := by
  rw [List.take_add_one, hy]
  simp
theorem nums_len (l : List Nr) : (l.flatMap nums4).length = 4 * l.length := by
  induction l with
  | nil => rfl
  | cons x l ih => rw [List.flatMap_cons, List.length_append, ih, List.length_cons, show (nums4 x).length = 4 from rfl]; omega
end Go.Proofs.YtbnbjiddffihoaaGreatDoor

/- append of a long slice that reads as a list. -/
namespace Go.Proofs.YtbnbjiddffihoaaGreatDoor
open Go.RowKit

theorem wp_append_rdW {P : Program} {α : Type} {enc : α → List Value} {o : Oper} {a : Act} {K : Act → World → Prop} {Q : Exit → Act → World → Prop} (w0 : World) (s x : Operand) (t : TypeId)
    (ho : o.op = .call { callee := .builtin .append, args := #[s, x], argTypes := #[t, t] })
    (base : Nat) (e : TypeId) (z : Value) (sz bytes : Nat) (ht : P.underlying t = some (.slice e)) (hi : (P.info? e).map (fun i => (i.zero, i.size, i.bytes)) = some (some z, sz, bytes))
    (hzs : z.cells.size = sz) (hsz : 0 < sz) (hby : bytes ≤ 65536)
    (v : Value) (l : List α) (hown : OwnL sz enc e base w0 v l) (hs : a.eval s = v) (S : Nat → Prop) (A : Option Addr) (n c : Nat) (news : List α) (hrd : Rd sz enc S w0 A n news) (hA : A = none → c = 0) (hlen : ∀ y, (enc y).length = sz) (h1 : ∀ y, ∀ u ∈ enc y, u.oneCell' = true)
    (hx : a.eval x = .slice A n c) (hb1 : 0 < bytes) (hmul : (l.length + n) * bytes ≤ 140737488355328) (hbase : base ≤ w0.heap.size)
    (h : ∀ v' w', OwnL sz enc e base w' v' (l ++ news) → Chg (fun k => k < w0.heap.size ∧ ¬ v.ownBlock = some k) w0 w' → Chg (· < base) w0 w' → K (a.put o.dst v') w') :
    o.wp P a w0 K Q := by
  obtain ⟨i, hi, hz0, hz1, hz2⟩ := info_parts hi
  have hlen2 : l.length + n ≤ (l.length + n) * bytes := Nat.le_mul_of_pos_right _ hb1
  have hnl := hrd.1
  cases A with
  | none =>
    have hc := hA rfl
    have hn0 : n = 0 := by
      rcases hrd.2 with h0 | ⟨x, o, e1, _⟩
      · exact h0
      · cases e1
    subst hn0 hc
    have hnews : news = [] := List.eq_nil_of_length_eq_zero hnl
    subst hnews
    refine wp_append_none s x t ho base e i sz ht hi v l.length (l.flatMap enc) hs hown hx ?_
    exact h v w0 (by simpa using hown) (Chg.refl _ _) (Chg.refl _ _)
  | some ad =>
    refine wp_append_own _ s x t ho base e i z sz bytes ht hi hz0 hz1 hz2 hzs hsz v l.length (l.flatMap enc) hs hown ad n c (news.flatMap enc) hx ?_ ?_ ?_ (by unfold maxLen; omega) (by omega) hbase ?_
    · have : ∀ l : List α, (l.flatMap enc).length = l.length * sz := by
        intro l
        induction l with
        | nil => simp
        | cons y r ih => rw [List.flatMap_cons, List.length_append, hlen, ih, List.length_cons, Nat.succ_mul]; omega
      rw [this, hnl]
    · intro j u hu
      have hj := (List.getElem?_eq_some_iff.1 hu).1
      rcases hrd.2 with h0 | ⟨x, o, e1, _, e3⟩
      · subst h0
        have : news = [] := List.eq_nil_of_length_eq_zero hnl
        subst this
        simp at hj
      · cases e1
        rw [Addr.add_lit]
        have hdiv : ∃ y, news[j / sz]? = some y ∧ (enc y)[j % sz]? = some u := by
          clear e3 hmul hlen2 hown h hx hrd
          induction news generalizing j n with
          | nil => simp at hu
          | cons y r ih =>
            rw [List.flatMap_cons] at hu
            by_cases hlt : j < sz
            · rw [List.getElem?_append_left (by rw [hlen]; exact hlt)] at hu
              exact ⟨y, by rw [Nat.div_eq_of_lt hlt]; rfl, by rw [Nat.mod_eq_of_lt hlt]; exact hu⟩
            · rw [List.getElem?_append_right (by rw [hlen]; omega), hlen] at hu
              obtain ⟨y', h1', h2'⟩ := ih (n := n - 1) (j := j - sz) (by simp at hnl; omega) hu (List.getElem?_eq_some_iff.1 hu).1
              have e1 : j / sz = (j - sz) / sz + 1 := by
                rw [Nat.div_eq_sub_div hsz (by omega)]
              have e2 : j % sz = (j - sz) % sz := by
                rw [Nat.mod_eq_sub_mod (by omega)]
              exact ⟨y', by rw [e1]; simpa using h1', by rw [e2]; exact h2'⟩
        obtain ⟨y, hy1, hy2⟩ := hdiv
        have := e3 _ y hy1 _ u hy2
        rw [Nat.add_assoc, Nat.mul_comm, Nat.div_add_mod] at this
        exact this
    · intro u hu
      obtain ⟨y, _, hy⟩ := List.mem_flatMap.1 hu
      exact h1 y u hy
    · intro v' w' hown' hgrow hnil
      have hch : Chg (fun k => k < w0.heap.size ∧ ¬ v.ownBlock = some k) w0 w' := ⟨hgrow.os, hgrow.tape, hgrow.output, hgrow.size, fun k hk => hgrow.block k hk.1 (fun h => hk.2 h.symm)⟩
      refine h v' w' ?_ hch (hch.mono fun k hk => ⟨by omega, fun hv => ?_⟩)
      · unfold OwnL
        simpa [List.flatMap_append, hnl] using hown'
      · have := hown.lt k hv
        omega
end Go.Proofs.YtbnbjiddffihoaaGreatDoor
