/- Texts for the statement WireRoundTripProof, part 4 of 8: Odd, EncN, NestB, Lnk. -/
import Derived.Test.YtjaemckdfoaopabDoorWireRoundTripProofPk1
import Derived.Test.YtjaemckdfoaopabDoorWireRoundTripProofPk2
import Derived.Test.YtjaemckdfoaopabDoorWireRoundTripProofPk3

/- OddRoster of the tape. -/
namespace Go.Proofs.YtjaemckdfoaopabDoor
open Go.RowKit

theorem flat_set1 {α : Type} {sz : Nat} {enc : α → List Value} (hsz : ∀ y, (enc y).length = sz) {c : Nat} (hc : c < sz) {y' : α} {v : Value} :
    ∀ (L : List α) (j : Nat) (y : α), L[j]? = some y → enc y' = (enc y).set c v → (L.set j y').flatMap enc = (L.flatMap enc).set (j * sz + c) v
  | [], j, y, h, _ => by simp at h
  | z :: r, 0, y, h, hv => by
    simp at h; subst h
    rw [List.set_cons_zero, List.flatMap_cons, List.flatMap_cons, hv, Nat.zero_mul, Nat.zero_add, List.set_append_left _ _ (by rw [hsz]; exact hc)]
  | z :: r, j + 1, y, h, hv => by
    rw [List.set_cons_succ, List.flatMap_cons, List.flatMap_cons, flat_set1 hsz hc r j y (by simpa using h) hv, List.set_append_right _ _ (by rw [hsz, Nat.succ_mul]; omega), hsz]
    congr 2
    rw [Nat.succ_mul]; omega
theorem own_set1 {α : Type} {sz : Nat} {enc : α → List Value} (hsz : ∀ y, (enc y).length = sz) {e : TypeId} {base : Nat} {w : World} {g n cap j c : Nat} {L : List α} {y : α} (h : OwnL sz enc e base w (.slice (some ⟨g, 0, none⟩) n cap) L)
    (hy : L[j]? = some y) (hc : c < sz) : w.cell? ⟨g, j * sz + c, none⟩ = (enc y)[c]? ∧ w.frozen? ⟨g, j * sz + c, none⟩ = false ∧
      ∀ (y' : α) (v : Value), enc y' = (enc y).set c v → OwnL sz enc e base (w.setCell ⟨g, j * sz + c, none⟩ v) (.slice (some ⟨g, 0, none⟩) n cap) (L.set j y') := by
  rcases h.2 with ⟨h1, _⟩ | ⟨g', cap', cur, e1, e2, e3, e4, e5, e6, e7⟩
  · cases h1
  · obtain ⟨rfl, hLn, rfl⟩ : g = g' ∧ n = L.length ∧ cap = cap' := by simpa using e1
    have hjl := (List.getElem?_eq_some_iff.1 hy).1
    have hlt : j * sz + c < L.length * sz := by
      have : (j + 1) * sz ≤ L.length * sz := Nat.mul_le_mul_right _ hjl
      rw [Nat.succ_mul] at this; omega
    refine ⟨?_, by simp [World.frozen?, e3], fun y' v hv => ⟨?_, .inr ⟨g, cap, _, by simp [hLn], e2, heap_set e3 _ v, by simpa using e4, e5, by simpa using e6, ?_⟩⟩⟩
    · have h2 : (cur.toList.take (L.length * sz))[j * sz + c]? = (enc y)[c]? := by
        rw [e7]
        have hcy : c < (enc y).length := by rw [hsz]; exact hc
        rw [List.getElem?_eq_getElem hcy]
        exact flat_at hsz L j y hy c _ (List.getElem?_eq_getElem hcy)
      rw [List.getElem?_take, if_pos hlt] at h2
      simpa [World.cell?, e3] using h2
    · rw [flatN_len hsz]
    · rw [flat_set1 hsz hc L j y hy hv, ← e7, List.length_set]
      simp only [Array.toList_setIfInBounds, List.take_set]

/-- what the encodings ask of a node -/
def NOk (x : Nd) : Prop := I64 x.id ∧ x.word < 4294967296 ∧ x.key.size ≤ 65
theorem roster_ok {l : List Nd} (h : checkN l = 0) : ∀ x ∈ l, NOk x ∧ 1 ≤ x.id ∧ x.id ≤ 2147483647 ∧ x.key.size ≤ 64 ∧ x.word < 65536 := by
  intro x hx
  have hb : badN x = false := by
    cases hb : badN x with
    | false => rfl
    | true =>
      exfalso
      unfold checkN at h
      have : l.any badN = true := List.any_eq_true.2 ⟨x, hx, hb⟩
      rw [this] at h
      split at h <;> simp at h
  unfold badN validN at hb
  simp at hb
  obtain ⟨⟨⟨h1, h2⟩, h3⟩, h4⟩ := hb
  exact ⟨⟨⟨by omega, by omega⟩, by omega, by omega⟩, by omega, by omega, by omega, by omega⟩
structure OddOf (n b : Nat) (w w' : World) (v : Value) (L : List Nd) : Prop where
  own : OwnL 3 encN 52 w.heap.size w' v L
  len : L.length ≤ n + 1
  ok : ∀ x ∈ L, NOk x
  tape : TK w' b
  k : Exb b w w'
theorem ok_set {L : List Nd} (h : ∀ x ∈ L, NOk x) (j : Nat) {y : Nd} (hy : NOk y) : ∀ x ∈ L.set j y, NOk x := fun x hx => by
  rcases List.mem_or_eq_of_mem_set hx with h1 | rfl
  · exact h x h1
  · exact hy
theorem ok_snoc {L : List Nd} (h : ∀ x ∈ L, NOk x) {y : Nd} (hy : NOk y) : ∀ x ∈ L ++ [y], NOk x := fun x hx => by
  rcases List.mem_append.1 hx with h1 | h1
  · exact h x h1
  · rw [List.mem_singleton.1 h1]; exact hy

end Go.Proofs.YtjaemckdfoaopabDoor

/- EncodeNodes of the package wire and of its reference. -/
namespace Go.Proofs.YtjaemckdfoaopabDoor
open Go.RowKit

/-- what the encoding asks of a node -/
def NOkE (x : Nd) : Prop := -9223372036854775808 ≤ x.id ∧ x.id ≤ 9223372036854775807 ∧ x.word < 4294967296 ∧ x.key.size ≤ 9223372036854775807
def encNd (x : Nd) : List UInt8 := encU (zig x.id) ++ encStr x.key ++ encU x.word
def encNds (l : List Nd) : List UInt8 × Int := if 64 < l.length then ([], 3) else if l.any (fun x => decide (64 < x.key.size)) then ([], 3) else (encU l.length ++ l.flatMap encNd, 0)
def EncP (r : List UInt8 × Int) (w : World) (e : Ending) (w' : World) : Prop := ∃ v, e = .returned (.tuple #[v, .int .i64 r.2]) ∧ OwnL 1 encB 5 w.heap.size w' v r.1 ∧ Ex w w'
def EncRel (l : List Nd) (n : Nat) (w : World) (o i : Value) (wr : World) : Prop :=
  ∃ k : Nat, k ≤ n ∧ i = .int .i64 k ∧ OwnL 1 encB 5 w.heap.size wr o (encU n ++ (l.take k).flatMap encNd) ∧ Ex w wr ∧ ∀ j z, j < k → l[j]? = some z → z.key.size ≤ 64
theorem encNd_len {x : Nd} (h : x.key.size ≤ 64) : (encNd x).length ≤ 100 := by
  unfold encNd
  have h1 := encU_length (zig x.id)
  have h2 := encU_length x.word
  have h3 := encU_length x.key.size
  have h4 := encStr_length x.key
  rw [List.length_append, List.length_append]; omega
theorem enc_take_le (l : List Nd) (k : Nat) (h : ∀ j z, j < k → l[j]? = some z → z.key.size ≤ 64) : ((l.take k).flatMap encNd).length ≤ 100 * k := by
  induction k with
  | zero => simp
  | succ k ih =>
    have ih := ih (fun j z hj hz => h j z (by omega) hz)
    cases hy : l[k]? with
    | none =>
      have hl := List.getElem?_eq_none_iff.1 hy
      rw [List.take_of_length_le (by omega)]
      rw [List.take_of_length_le (by omega)] at ih
      omega
    | some y =>
      rw [List.take_add_one, hy]
      have := encNd_len (h k y (by omega) hy)
      simp at *
      omega
theorem flat_snoc {α : Type} (f : α → List UInt8) (l : List α) (k : Nat) (y : α) (h : l[k]? = some y) : (l.take (k + 1)).flatMap f = (l.take k).flatMap f ++ f y := by
  rw [List.take_add_one, h]; simp

set_option maxRecDepth 100000 in
set_option maxHeartbeats 2000000 in
theorem encn_p (a : Option Addr) (n cp : Nat) (l : List Nd) (w : World) (hs : Sl 3 encN w a n l) (hn : n ≤ 1000) (hok : ∀ x ∈ l, NOkE x) :
    Calls Tryd.prog 8 #[.slice a n cp] w (EncP (encNds l) w) := by
  have OK := Lib.hid hok
  have HL := Lib.hid hs.len
  clear hok
  go_enter Tryd.func8, Tryd.ntmps8
  by_cases h64 : 64 < n
  · have HE : Hid (encNds l = ([], 3)) := Lib.hid (by unfold encNds; rw [if_pos (by rw [HL.out]; exact h64)])
    clear hs
    go_wp2_with fail
    go_ret2
    rw [HE.out]
    exact ⟨_, rfl, OwnL.nil _ _ _ _ _, Ex.refl _⟩
  have hs := Lib.hid hs
  have hwn : IntKind.u64.wrap (n : Int) = (n : Int) := by rw [wrap_u64n]; omega
  go_wp2_with fail
  (with_reducible refine (appuint_p _ _ _ [] n _ (Sl.nil _ _ _ _) (by omega) (fun _ => rfl) (by omega)).mono ?_)
  rintro e w1 ⟨v1, rfl, own, kk⟩
  rw [List.nil_append] at own
  have own : OwnL 1 encB 5 w.heap.size w1 v1 (encU n ++ (l.take 0).flatMap encNd) := by simpa using own
  go_wp2_with fail
  go_loopw [4, 16] (fun o i wr => EncRel l n w o i wr) (fun _ i _ => n - (intOf i).toNat)
  case atStart => exact ⟨0, by omega, rfl, own, kk, by intro _ _ h; omega⟩
  case round =>
    clear own kk
    obtain ⟨k, hk, rfl, own, kw, hsh⟩ := hrel
    have HSH := Lib.hid hsh
    obtain ⟨wo, rfl⟩ : ∃ wo : World, wo = wr := ⟨_, rfl⟩
    clear hsh
    by_cases hlt : k < n
    · obtain ⟨x1, o1, y, rfl, hx1, hy, hc1⟩ := (hs.out.nx kw).at hlt
      have e0 : wo.cell? ⟨x1, o1 + k * 3, none⟩ = some (.int .i64 y.id) := hc1 0 _ rfl
      have e1 : wo.cell? ⟨x1, o1 + k * 3 + 1, none⟩ = some (.string y.key) := hc1 1 _ rfl
      have e2 : wo.cell? ⟨x1, o1 + k * 3 + 1 + 1, none⟩ = some (.int .u32 y.word) := by simpa [Nat.add_assoc] using hc1 2 _ rfl
      have e2' : wo.cell? ⟨x1, o1 + k * 3 + 2, none⟩ = some (.int .u32 y.word) := hc1 2 _ rfl
      obtain ⟨i1, i2, i3, i4⟩ := OK.out y (List.mem_of_getElem? hy)
      have HY := Lib.hid hy
      have FS := Lib.hid (flat_snoc encNd l k y hy)
      have hbl := enc_take_le l k HSH.out
      clear hc1 hy
      have B7 := Blk.new wo [.int .i64 y.id, .string y.key, .int .u32 y.word] 52
      have k2 := Ex.new wo (.cells #[.int .i64 y.id, .string y.key, .int .u32 y.word] 52)
      obtain ⟨w2, hw2⟩ : ∃ w2, w2 = wo.alloc (.cells #[.int .i64 y.id, .string y.key, .int .u32 y.word] 52) := ⟨_, rfl⟩
      obtain ⟨g7, hg7⟩ : ∃ g7, g7 = wo.heap.size := ⟨_, rfl⟩
      have B7 : Blk w2 g7 [.int .i64 y.id, .string y.key, .int .u32 y.word] 52 := by rw [hw2, hg7]; exact B7
      rw [← hw2] at k2
      have HW2 := Lib.hid hw2
      have HG7 := Lib.hid hg7
      replace own := own.nx k2
      replace kw := kw.nx k2
      clear hw2 hg7 k2
      go_upto_region 7 with fail
      rw [← HG7.out, ← HW2.out]
      clear e0 e1 e2 e2'
      have e0 := B7.cell 0 _ rfl
      have e1 := B7.cell 1 _ rfl
      have e2 := B7.cell 2 _ rfl
      have hx1 := B7.lt
      by_cases hkey : 64 < y.key.size
      · have HE : Hid (encNds l = ([], 3)) := Lib.hid (by
          unfold encNds
          rw [if_neg (by rw [HL.out]; exact h64), if_pos (List.any_eq_true.2 ⟨y, List.mem_of_getElem? HY.out, by simpa using hkey⟩)])
        have dk : (64 : Int) < (y.key.size : Int) := by omega
        clear own FS hbl
        go_wp2_with fail
        go_ret2
        rw [HE.out]
        exact ⟨_, rfl, OwnL.nil _ _ _ _ _, kw⟩
      · have dk : ¬ (64 : Int) < (y.key.size : Int) := by omega
        have hkey' : y.key.size ≤ 64 := by omega
        obtain ⟨a3, c3, rfl, s3, o3, m3, nil3⟩ := own.slf (fun _ => rfl)
        have hnb := encU_length n
        have hlen3 : (encU n ++ (l.take k).flatMap encNd).length ≤ 10 + 100 * k := by rw [List.length_append]; omega
        have hk64 : k ≤ 64 := by omega
        obtain ⟨bs, hbs⟩ : ∃ bs, bs = encU n ++ (l.take k).flatMap encNd := ⟨_, rfl⟩
        rw [← hbs] at own s3 o3 hlen3 ⊢
        have HBS := Lib.hid hbs
        clear hbs
        have s3 := Lib.hid s3.sl
        have NIL3 := Lib.hid nil3
        have hww : IntKind.u64.wrap (y.word : Int) = (y.word : Int) := by rw [wrap_u64n]; omega
        have l1 := encU_length (zig y.id)
        have l2 := encStr_length y.key
        have l3 := encU_length y.key.size
        clear nil3 hkey own hbl hnb
        go_wp2_with fail
        have KW := Lib.hid kw
        refine wp_region_held_drew (S := Ex w2.drew) (by kernel_rfl) (Ex.refl _) (fun hHeld => ?_)
        refine wpAnyH_take (i := 0) (oi := { dst := some 24, op := Op.move (Operand.tmp 4), type := 23, pos := "wire.go:95", after := #[], guard := none }) (v := ?_) rfl (by kernel_rfl) (by kernel_rfl) (by kernel_rfl) (fun _ _ _ h => h) (Or.inl ⟨by rfl, ?hyr1x0⟩) (by assumption) ?restr1x0
        case hyr1x0 => intro wq hSw; (go_simp); (try with_reducible rfl)
        try simp only [Act.put, List.setIfInBounds_toArray, List.set_cons_zero, List.set_cons_succ]
        refine wpAnyH_take (i := 1) (oi := { dst := some 25, op := Op.fieldAddr 52 (Operand.tmp 6) 0, type := 0, pos := "wire.go:95", after := #[], guard := none }) (v := ?_) rfl (by kernel_rfl) (by kernel_rfl) (by kernel_rfl) (fun _ _ _ h => h) (Or.inl ⟨by rfl, ?hyr1x1⟩) (by assumption) ?restr1x1
        case hyr1x1 => intro wq hSw; (go_simp); (try with_reducible rfl)
        try simp only [Act.put, List.setIfInBounds_toArray, List.set_cons_zero, List.set_cons_succ]
        refine wpAnyH_take (i := 2) (oi := { dst := some 26, op := Op.load 3 (Operand.tmp 25), type := 3, pos := "wire.go:95", after := #[{ on := 1, ground := Ground.data }], guard := none }) (v := ?_) rfl (by kernel_rfl) (by kernel_rfl) (by kernel_rfl) (fun _ _ _ h => h) (Or.inl ⟨by rfl, ?hyr1x2⟩) (by assumption) ?restr1x2
        case hyr1x2 => intro wq hSw; (have cq := Chg.cellv hSw e0 hx1; go_simp); (try with_reducible rfl)
        try simp only [Act.put, List.setIfInBounds_toArray, List.set_cons_zero, List.set_cons_succ]
        refine wpAnyH_take (i := 4) (oi := { dst := some 28, op := Op.fieldAddr 52 (Operand.tmp 6) 1, type := 0, pos := "wire.go:95", after := #[], guard := none }) (v := ?_) rfl (by kernel_rfl) (by kernel_rfl) (by kernel_rfl) (fun _ _ _ h => h) (Or.inl ⟨by rfl, ?hyr1x4⟩) (by assumption) ?restr1x4
        case hyr1x4 => intro wq hSw; (go_simp); (try with_reducible rfl)
        try simp only [Act.put, List.setIfInBounds_toArray, List.set_cons_zero, List.set_cons_succ]
        refine wpAnyH_take (i := 5) (oi := { dst := some 29, op := Op.load 9 (Operand.tmp 28), type := 9, pos := "wire.go:95", after := #[{ on := 4, ground := Ground.data }], guard := none }) (v := ?_) rfl (by kernel_rfl) (by kernel_rfl) (by kernel_rfl) (fun _ _ _ h => h) (Or.inl ⟨by rfl, ?hyr1x5⟩) (by assumption) ?restr1x5
        case hyr1x5 => intro wq hSw; (have cq := Chg.cellv hSw e1 hx1; go_simp); (try with_reducible rfl)
        try simp only [Act.put, List.setIfInBounds_toArray, List.set_cons_zero, List.set_cons_succ]
        refine wpAnyH_take (i := 7) (oi := { dst := some 31, op := Op.fieldAddr 52 (Operand.tmp 6) 2, type := 0, pos := "wire.go:95", after := #[], guard := none }) (v := ?_) rfl (by kernel_rfl) (by kernel_rfl) (by kernel_rfl) (fun _ _ _ h => h) (Or.inl ⟨by rfl, ?hyr1x7⟩) (by assumption) ?restr1x7
        case hyr1x7 => intro wq hSw; (go_simp); (try with_reducible rfl)
        try simp only [Act.put, List.setIfInBounds_toArray, List.set_cons_zero, List.set_cons_succ]
        refine wpAnyH_take (i := 8) (oi := { dst := some 32, op := Op.load 49 (Operand.tmp 31), type := 49, pos := "wire.go:95", after := #[{ on := 7, ground := Ground.data }], guard := none }) (v := ?_) rfl (by kernel_rfl) (by kernel_rfl) (by kernel_rfl) (fun _ _ _ h => h) (Or.inl ⟨by rfl, ?hyr1x8⟩) (by assumption) ?restr1x8
        case hyr1x8 => intro wq hSw; (have cq := Chg.cellv hSw e2 hx1; go_simp); (try with_reducible rfl)
        try simp only [Act.put, List.setIfInBounds_toArray, List.set_cons_zero, List.set_cons_succ]
        refine wpAnyH_take (i := 9) (oi := { dst := some 33, op := Op.convert 49 63 (Operand.tmp 32), type := 63, pos := "wire.go:95", after := #[{ on := 8, ground := Ground.data }], guard := none }) (v := ?_) rfl (by kernel_rfl) (by kernel_rfl) (by kernel_rfl) (fun _ _ _ h => h) (Or.inl ⟨by rfl, ?hyr1x9⟩) (by assumption) ?restr1x9
        case hyr1x9 => intro wq hSw; (go_simp); (try with_reducible rfl)
        try simp only [Act.put, List.setIfInBounds_toArray, List.set_cons_zero, List.set_cons_succ]
        refine wpAnyH_ready (rs := [3]) (by kernel_rfl) (by simp) ?_
        refine AllReadyH.cons (o := { dst := some 27, op := Op.call { callee := Callee.value (Operand.func 26), args := #[Operand.tmp 24, Operand.tmp 26], argTypes := #[23, 2] }, type := 23, pos := "wire.go:95", after := #[{ on := 0, ground := Ground.data }, { on := 2, ground := Ground.data }], guard := none }) rfl (fun K hK => ?_) AllReadyH.nil
        go_simp
        (with_reducible refine (appint_p _ _ _ bs _ _ (s3.out.nx (Ex.refl w2).drew) (by omega) NIL3.out i1 i2).mono ?_)
        rintro e w4 ⟨v4, rfl, own4, k4⟩
        obtain ⟨b4, hb4⟩ : ∃ b4, b4 = bs ++ encU (zig y.id) := ⟨_, rfl⟩
        rw [← hb4] at own4
        have n4 : b4.length ≤ 200000 := by rw [hb4, List.length_append]; omega
        have HB4 := Lib.hid hb4
        have n4' : b4.length ≤ 7000 := by rw [hb4, List.length_append]; omega
        clear hb4
        obtain ⟨a4, c4, rfl, s4, _, _, nil4⟩ := own4.slf (fun _ => rfl)
        have e1 := Chg.cellv k4 e1 hx1
        have e2 := Chg.cellv k4 e2 hx1
        have hx4 : g7 < w4.heap.size := Nat.lt_of_lt_of_le hx1 k4.size
        have s4 := Lib.hid s4.sl
        have NIL4 := Lib.hid nil4
        clear own4 nil4
        refine hK.out _ _ k4 (fun _ => ?_)
        clear hK K
        try simp only [Act.put, List.setIfInBounds_toArray, List.set_cons_zero, List.set_cons_succ]
        refine wpAnyH_switch (S' := Ex w4) (fun _ hSw => Ex.nx k4 hSw) ?_
        clear hHeld
        have hHeld := Ex.refl w4
        refine wpAnyH_ready (rs := [6]) (by kernel_rfl) (by simp) ?_
        refine AllReadyH.cons (o := { dst := some 30, op := Op.call { callee := Callee.value (Operand.func 25), args := #[Operand.tmp 27, Operand.tmp 29], argTypes := #[23, 9] }, type := 23, pos := "wire.go:95", after := #[{ on := 3, ground := Ground.data }, { on := 5, ground := Ground.data }, { on := 3, ground := Ground.chain }], guard := none }) rfl (fun K hK => ?_) AllReadyH.nil
        go_simp
        (with_reducible refine (appstr_p _ _ _ _ y.key _ s4.out n4 NIL4.out (by omega)).mono ?_)
        rintro e w5 ⟨v5, rfl, own5, k5⟩
        obtain ⟨b5, hb5⟩ : ∃ b5, b5 = b4 ++ encStr y.key := ⟨_, rfl⟩
        rw [← hb5] at own5
        have n5 : b5.length ≤ 200000 := by rw [hb5, List.length_append]; omega
        have HB5 := Lib.hid hb5
        clear hb5
        obtain ⟨a5, c5, rfl, s5, _, _, nil5⟩ := own5.slf (fun _ => rfl)
        have e2 := Chg.cellv k5 e2 hx4
        have hx5 : g7 < w5.heap.size := Nat.lt_of_lt_of_le hx4 k5.size
        have s5 := Lib.hid s5.sl
        have NIL5 := Lib.hid nil5
        clear own5 nil5
        refine hK.out _ _ k5 (fun _ => ?_)
        clear hK K
        try simp only [Act.put, List.setIfInBounds_toArray, List.set_cons_zero, List.set_cons_succ]
        refine wpAnyH_switch (S' := Ex w5) (fun _ hSw => Ex.nx k5 hSw) ?_
        clear hHeld
        have hHeld := Ex.refl w5
        refine wpAnyH_ready (rs := [10]) (by kernel_rfl) (by simp) ?_
        refine AllReadyH.cons (o := { dst := some 34, op := Op.call { callee := Callee.value (Operand.func 24), args := #[Operand.tmp 30, Operand.tmp 33], argTypes := #[23, 63] }, type := 23, pos := "wire.go:95", after := #[{ on := 6, ground := Ground.data }, { on := 9, ground := Ground.data }, { on := 6, ground := Ground.chain }], guard := none }) rfl (fun K hK => ?_) AllReadyH.nil
        go_simp
        (with_reducible refine (appuint_p _ _ _ _ y.word _ s5.out n5 NIL5.out (by omega)).mono ?_)
        rintro e w6 ⟨v6, rfl, own6, k6⟩
        refine hK.out _ _ k6 (fun _ => ?_)
        clear hK K
        try simp only [Act.put, List.setIfInBounds_toArray, List.set_cons_zero, List.set_cons_succ]
        refine wpAnyH_switch (S' := Ex w6) (fun _ hSw => Ex.nx k6 hSw) ?_
        clear hHeld
        have hHeld := Ex.refl w6
        refine wpAnyH_take (i := 11) (oi := { dst := some 4, op := Op.assign (Operand.tmp 34), type := 23, pos := "wire.go:95", after := #[{ on := 10, ground := Ground.data }, { on := 10, ground := Ground.chain }, { on := 0, ground := Ground.phase }, { on := 1, ground := Ground.phase }, { on := 2, ground := Ground.phase }, { on := 3, ground := Ground.phase }, { on := 4, ground := Ground.phase }, { on := 5, ground := Ground.phase }, { on := 6, ground := Ground.phase }, { on := 7, ground := Ground.phase }, { on := 8, ground := Ground.phase }, { on := 9, ground := Ground.phase }, { on := 10, ground := Ground.phase }], guard := none }) (v := ?_) rfl (by kernel_rfl) (by kernel_rfl) (by kernel_rfl) (fun _ _ _ h => h) (Or.inl ⟨by rfl, ?hyr1x11⟩) (by assumption) ?restr1x11
        case hyr1x11 => intro wq hSw; (go_simp); (try with_reducible rfl)
        try simp only [Act.put, List.setIfInBounds_toArray, List.set_cons_zero, List.set_cons_succ]
        refine wpAnyH_done (by kernel_rfl) ?_ _
        have kw6 := (((KW.out.nx (Ex.refl w2).drew).nx k4).nx k5).nx k6
        have z5 : w.heap.size ≤ w5.heap.size := (((KW.out.nx (Ex.refl w2).drew).nx k4).nx k5).size
        clear k4 k5 k6 s3 s4 s5 NIL3 NIL4 NIL5 n4 n5 e0 e1 e2
        go_wp2_with fail
        refine ⟨⟨k + 1, by omega, by go_num, ?_, kw6, fun j z hj hz => ?_⟩, by simp [intOf]; omega⟩
        · rw [FS.out, ← List.append_assoc, ← HBS.out]
          unfold encNd
          rw [← List.append_assoc, ← List.append_assoc, ← HB4.out, ← HB5.out]
          exact own6.base z5
        · rcases Nat.lt_or_ge j k with h | h
          · exact HSH.out j z h hz
          · obtain rfl : j = k := by omega
            rw [Option.some.inj (hz.symm.trans HY.out)]
            exact hkey'
    · obtain rfl : k = n := by omega
      rw [List.take_of_length_le (by rw [HL.out]; exact Nat.le_refl _)] at own
      have HE : Hid (encNds l = (encU k ++ l.flatMap encNd, 0)) := Lib.hid (by
        unfold encNds
        rw [if_neg (by rw [HL.out]; exact h64), if_neg, HL.out]
        rw [List.any_eq_true]
        rintro ⟨z, hz, hk⟩
        obtain ⟨j, hj, he⟩ := List.mem_iff_getElem.1 hz
        have := HSH.out j z (by rw [← HL.out]; exact hj) (by rw [← he]; simp)
        simp at hk
        omega)
      obtain ⟨a3, c3, rfl, _⟩ := own.slf (fun _ => rfl)
      clear hk hlt
      go_wp2_with fail
      go_ret2
      rw [HE.out]
      exact ⟨_, rfl, own, kw⟩

end Go.Proofs.YtjaemckdfoaopabDoor

/- What a call does to lists of its own whose elements hold a list each. -/
namespace Go.Proofs.YtjaemckdfoaopabDoor
open Go.RowKit

section
variable {A β : Type} {encA : A → List Value} {p s2 : Nat} {encB : β → List Value} {e1 e2 : TypeId} {base : Nat} {w w' : World} {v v' : Value} {qs : List (A × Hdr)} {L : List (A × List β)}
theorem OwnN.get (h : OwnN encA (p + 1) s2 encB e1 e2 base w v qs L) {k : Nat} {c : A × List β} (hc : L[k]? = some c) : ∃ hd : Hdr, qs[k]? = some (c.1, hd) ∧ OwnL s2 encB e2 base w hd.val c.2 := by
  obtain ⟨q, hq⟩ : ∃ q, qs[k]? = some q := ⟨qs[k]'(by have := (List.getElem?_eq_some_iff.1 hc).1; have := h.2.1; omega), by simp⟩
  obtain ⟨r1, r2⟩ := h.2.2.1 k q c hq hc
  exact ⟨q.2, by rw [hq, ← r1], r2⟩
/-- one list is put anew: in memory alone -/
theorem OwnN.mod (hne : e1 ≠ e2) (h : OwnN encA (p + 1) s2 encB e1 e2 base w v qs L) {k : Nat} {a : A} {hd hd' : Hdr} {c' : List β} (hq : qs[k]? = some (a, hd)) (ho : OwnL s2 encB e2 base w' hd'.val c')
    (kk : Chg (fun x => x < w.heap.size ∧ ¬ hd.val.ownBlock = some x) w w') (hat : hd'.val.ownBlock = hd.val.ownBlock ∨ ∀ x, hd'.val.ownBlock = some x → w.heap.size ≤ x) :
    OwnW (p + 1) (encP encA) e1 base w' v qs ∧ (∀ (j : Nat) (q : A × Hdr) (c : A × List β), j ≠ k → qs[j]? = some q → L[j]? = some c → q.1 = c.1 ∧ OwnL s2 encB e2 base w' q.2.val c.2) ∧
      (∀ x, hd'.val.ownBlock = some x → ¬ v.ownBlock = some x) ∧ ∀ (j : Nat) (q : A × Hdr) (x : Nat), j ≠ k → qs[j]? = some q → q.2.val.ownBlock = some x → ¬ hd'.val.ownBlock = some x := by
  have ho1 : OwnW (p + 1) (encP encA) e1 base w' v qs := h.1.chg kk (fun x hx hv => ⟨hx, fun hh => h.ne hne hq hh hv⟩)
  refine ⟨ho1, fun j q c hjk hr hc => ?_, fun x hx hv => ?_, fun j q x hjk hr hx hy => ?_⟩
  · obtain ⟨r1, r2⟩ := h.2.2.1 j q c hr hc
    exact ⟨r1, r2.chg kk (fun x hx hv => ⟨hx, fun hh => hjk (h.2.2.2 j k q (a, hd) x hr hq hv hh)⟩)⟩
  · obtain ⟨_, cur, h1⟩ := ho.blk hx
    obtain ⟨_, cur', h2⟩ := ho1.blk hv
    rw [h1] at h2
    simp at h2
    exact hne h2.2.symm
  · rcases hat with h1 | h1
    · exact hjk (h.2.2.2 j k q (a, hd) x hr hq hx (h1 ▸ hy))
    · have := h.lt hr hx
      have := h1 x hy
      omega
/-- .. and its head is stored -/
theorem OwnN.put (hA : ∀ y, (encA y).length = p) (hne : e1 ≠ e2) {g n cap : Nat} (h : OwnN encA (p + 1) s2 encB e1 e2 base w (.slice (some ⟨g, 0, none⟩) n cap) qs L) {k : Nat} {a : A} {hd hd' : Hdr} {c' : List β} (hq : qs[k]? = some (a, hd))
    (ho : OwnL s2 encB e2 base w' hd'.val c') (kk : Chg (fun x => x < w.heap.size ∧ ¬ hd.val.ownBlock = some x) w w') (hat : hd'.val.ownBlock = hd.val.ownBlock ∨ ∀ x, hd'.val.ownBlock = some x → w.heap.size ≤ x) :
    w'.cell? ⟨g, k * (p + 1) + p, none⟩ = some hd.val ∧ w'.frozen? ⟨g, k * (p + 1) + p, none⟩ = false ∧
      OwnN encA (p + 1) s2 encB e1 e2 base (w'.setCell ⟨g, k * (p + 1) + p, none⟩ hd'.val) (.slice (some ⟨g, 0, none⟩) n cap) (qs.set k (a, hd')) (L.set k (a, c')) := by
  obtain ⟨o1, o2, o3, o4⟩ := h.mod hne hq ho kk hat
  have hsz : ∀ y, (encP encA y).length = p + 1 := fun y => by unfold encP; simp [hA]
  obtain ⟨f1, f2, f3⟩ := o1.set1 hsz hq (c := p) (by omega)
  have hkl := (List.getElem?_eq_some_iff.1 hq).1
  have hset : Chg (· ≠ g) w' (w'.setCell ⟨g, k * (p + 1) + p, none⟩ hd'.val) := (Chg.refl _ w').setCell _ (fun x hx => hx)
  have hgb : (Value.slice (some ⟨g, 0, none⟩) n cap).ownBlock = some g := rfl
  refine ⟨?_, f2, f3 (a, hd') hd'.val ?_, by simp [h.2.1], fun j r c hr hc => ?_, fun i j qi qj x hi hj gi gj => ?_⟩
  · rw [f1]
    unfold encP
    rw [List.getElem?_append_right (by rw [hA]; exact Nat.le_refl _), hA, Nat.sub_self]
    rfl
  · unfold encP
    rw [List.set_append_right _ _ (by rw [hA]; exact Nat.le_refl _), hA, Nat.sub_self]
    rfl
  · by_cases hjk : j = k
    · subst hjk
      rw [List.getElem?_set_self hkl] at hr
      rw [List.getElem?_set_self (by rw [← h.2.1]; exact hkl)] at hc
      cases hr
      cases hc
      exact ⟨rfl, ho.chg hset (fun x _ hv => by intro he; subst he; exact o3 _ hv hgb)⟩
    · rw [List.getElem?_set_ne (by omega)] at hr hc
      obtain ⟨r1, r2⟩ := o2 j r c hjk hr hc
      refine ⟨r1, r2.chg hset (fun x _ hv => ?_)⟩
      intro he
      subst he
      exact h.ne hne hr hv hgb
  · by_cases hik : i = k
    · by_cases hjk : j = k
      · omega
      · exfalso
        subst hik
        rw [List.getElem?_set_self hkl] at hi
        cases hi
        rw [List.getElem?_set_ne (by omega)] at hj
        exact o4 j qj x hjk hj gj gi
    · rw [List.getElem?_set_ne (by omega)] at hi
      by_cases hjk : j = k
      · exfalso
        subst hjk
        rw [List.getElem?_set_self hkl] at hj
        cases hj
        exact o4 i qi x hik hi gi gj
      · rw [List.getElem?_set_ne (by omega)] at hj
        exact h.2.2.2 i j qi qj x hi hj gi gj
/-- .. or its head stays as it is -/
theorem OwnN.keep (hne : e1 ≠ e2) (h : OwnN encA (p + 1) s2 encB e1 e2 base w v qs L) {k : Nat} {a : A} {hd : Hdr} {c' : List β} (hq : qs[k]? = some (a, hd)) (ho : OwnL s2 encB e2 base w' hd.val c')
    (kk : Chg (fun x => x < w.heap.size ∧ ¬ hd.val.ownBlock = some x) w w') : OwnN encA (p + 1) s2 encB e1 e2 base w' v qs (L.set k (a, c')) := by
  obtain ⟨o1, o2, o3, o4⟩ := h.mod hne hq ho kk (.inl rfl)
  have hkl := (List.getElem?_eq_some_iff.1 hq).1
  refine ⟨o1, by simp [h.2.1], fun j r c hr hc => ?_, h.2.2.2⟩
  by_cases hjk : j = k
  · subst hjk
    rw [List.getElem?_set_self (by rw [← h.2.1]; exact hkl)] at hc
    obtain rfl : (a, hd) = r := Option.some.inj (hq.symm.trans hr)
    cases hc
    exact ⟨rfl, ho⟩
  · rw [List.getElem?_set_ne (by omega)] at hc
    exact o2 j r c hjk hr hc
theorem get_erase {α : Type} (l : List α) (k i : Nat) : (l.take k ++ l.drop (k + 1))[i]? = if k ≤ l.length then (if i < k then l[i]? else l[i + 1]?) else l[i]? := by
  by_cases hk : k ≤ l.length
  · rw [if_pos hk]
    by_cases hi : i < k
    · rw [if_pos hi, List.getElem?_append_left (by rw [List.length_take]; omega), List.getElem?_take, if_pos hi]
    · rw [if_neg hi, List.getElem?_append_right (by rw [List.length_take]; omega), List.length_take, List.getElem?_drop]
      congr 1
      omega
  · rw [if_neg hk, List.take_of_length_le (by omega), List.drop_of_length_le (by omega), List.append_nil]
/-- one element is taken out -/
theorem OwnN.erase (hne : e1 ≠ e2) (h : OwnN encA (p + 1) s2 encB e1 e2 base w v qs L) {k : Nat} (hk : k < L.length) (ho : OwnW (p + 1) (encP encA) e1 base w' v' (qs.take k ++ qs.drop (k + 1)))
    (kk : Chg (fun x => x < w.heap.size ∧ ¬ v.ownBlock = some x) w w') : OwnN encA (p + 1) s2 encB e1 e2 base w' v' (qs.take k ++ qs.drop (k + 1)) (L.take k ++ L.drop (k + 1)) := by
  have hl := h.2.1
  refine ⟨ho, by simp; omega, fun j q c hq hc => ?_, fun i j qi qj x hi hj gi gj => ?_⟩
  · rw [get_erase, if_pos (by omega)] at hq hc
    have key : ∀ j, qs[j]? = some q → L[j]? = some c → q.1 = c.1 ∧ OwnL s2 encB e2 base w' q.2.val c.2 := fun j hq hc => by
      obtain ⟨r1, r2⟩ := h.2.2.1 j q c hq hc
      exact ⟨r1, r2.chg kk (fun x hx hv => ⟨hx, h.ne hne hq hv⟩)⟩
    split at hq
    · rename_i hj
      rw [if_pos hj] at hc
      exact key j hq hc
    · rename_i hj
      rw [if_neg hj] at hc
      exact key (j + 1) hq hc
  · rw [get_erase, if_pos (by omega)] at hi hj
    split at hi <;> split at hj
    · exact h.2.2.2 i j qi qj x hi hj gi gj
    · have := h.2.2.2 i (j + 1) qi qj x hi hj gi gj; omega
    · have := h.2.2.2 (i + 1) j qi qj x hi hj gi gj; omega
    · have := h.2.2.2 (i + 1) (j + 1) qi qj x hi hj gi gj; omega
/-- a row that was just written out is the call's own -/
theorem OwnL.lit {α : Type} {sz : Nat} {enc : α → List Value} {e : TypeId} {base : Nat} {w : World} (l : List α) (hsz : ∀ y, (enc y).length = sz) (hb : base ≤ w.heap.size) (hl : l.length ≤ maxLen) {cs : Array Value} (hc : cs = (l.flatMap enc).toArray) :
    OwnL sz enc e base (w.alloc (.cells cs e)) (.slice (some ⟨w.heap.size, 0, none⟩) l.length l.length) l := by
  subst hc
  have hf : (l.flatMap enc).length = l.length * sz := flatN_len hsz l
  exact ⟨hf, .inr ⟨w.heap.size, l.length, _, rfl, hb, heap_new w _, Nat.le_refl _, hl, by simp [hf], by simp only [← hf, List.toList_toArray]; exact List.take_length⟩⟩
end
end Go.Proofs.YtjaemckdfoaopabDoor

/- Links of the tape. -/
namespace Go.Proofs.YtjaemckdfoaopabDoor
open Go.RowKit

def LkOk (B1 B2 : Nat) (L : List Lkd) : Prop := L.length ≤ B1 ∧ ∀ c ∈ L, I64 c.1 ∧ c.2.length ≤ B2 ∧ ∀ y ∈ c.2, I64 y.1 ∧ I64 y.2
theorem i64_zero : I64 0 := ⟨by omega, by omega⟩
theorem neigh_ok {l : List Nd} (h : ∀ x ∈ l, I64 x.id) (id lev : Int) : I64 (neighN l id lev).1.1 ∧ I64 (neighN l id lev).1.2 := by
  have hg : ∀ x ∈ (throughN l id lev).1, I64 x.id := by
    intro x hx
    unfold throughN at hx
    split at hx
    · unfold thrG groupN at hx
      exact h x ((sortN_mem l x).1 (List.mem_filter.1 hx).1)
    · simp at hx
  have hd : ∀ (o : Option Nd), (∀ x, o = some x → I64 x.id) → I64 (o.getD Nd.zero).id := by
    intro o ho
    cases o with
    | none => exact i64_zero
    | some x => exact ho x rfl
  unfold neighN
  split
  · refine ⟨?_, ?_⟩
    · show I64 (leftN _ _)
      unfold leftN
      split
      · exact i64_zero
      · exact hd _ (fun x hx => hg x (List.mem_of_getElem? hx))
    · exact hd _ (fun x hx => hg x (List.mem_of_getElem? hx))
  · exact ⟨i64_zero, i64_zero⟩
theorem build_ok {l : List Nd} (h : ∀ x ∈ l, I64 x.id) (lev : Int) : LkOk l.length 17 (buildN l lev).1 := by
  unfold buildN
  split
  · exact ⟨by simp, by simp⟩
  · split
    · exact ⟨by simp, by simp⟩
    · rename_i hl
      have hlv : 0 ≤ lev ∧ lev ≤ 16 := by
        have : lvlN lev = true := by simpa using hl
        unfold lvlN at this
        simpa using this
      refine ⟨by simp [sortN_length], fun c hc => ?_⟩
      obtain ⟨x, hx, rfl⟩ := List.mem_map.1 hc
      have hs : ∀ x ∈ sortN l, I64 x.id := fun x hx => h x ((sortN_mem l x).1 hx)
      refine ⟨hs x hx, by rw [rowN_len]; omega, fun y hy => ?_⟩
      unfold rowN at hy
      obtain ⟨j, _, rfl⟩ := List.mem_map.1 hy
      exact neigh_ok hs _ _
def LsRel (n ch b : Nat) (w : World) (o i : Value) (wr : World) : Prop :=
  ∃ (k : Nat) (qs : List (Int × Hdr)) (L : List Lkd), k ≤ ch ∧ i = .int .i64 k ∧ OwnLk w.heap.size wr o qs L ∧ LkOk (n + (ch - k)) (17 + (ch - k)) L ∧ TK wr b ∧ Exb b w wr
theorem lk_mono {B1 B2 B1' B2' : Nat} {L : List Lkd} (h : LkOk B1 B2 L) (h1 : B1 ≤ B1') (h2 : B2 ≤ B2') : LkOk B1' B2' L :=
  ⟨by have := h.1; omega, fun c hc => ⟨(h.2 c hc).1, by have := (h.2 c hc).2.1; omega, (h.2 c hc).2.2⟩⟩
theorem lk_erase {B1 B2 : Nat} {L : List Lkd} (h : LkOk B1 B2 L) (j : Nat) : LkOk B1 B2 (L.take j ++ L.drop (j + 1)) := by
  refine ⟨by have := h.1; simp; omega, fun c hc => h.2 c ?_⟩
  rcases List.mem_append.1 hc with h1 | h1
  · exact List.mem_of_mem_take h1
  · exact List.mem_of_mem_drop h1
theorem lk_push {B1 B2 : Nat} {L : List Lkd} (h : LkOk B1 B2 L) {c : Lkd} (hc : I64 c.1 ∧ c.2.length ≤ B2 ∧ ∀ y ∈ c.2, I64 y.1 ∧ I64 y.2) : LkOk (B1 + 1) B2 (L ++ [c]) := by
  refine ⟨by have := h.1; simp; omega, fun d hd => ?_⟩
  rcases List.mem_append.1 hd with h1 | h1
  · exact h.2 d h1
  · rw [List.mem_singleton.1 h1]; exact hc
theorem lk_set {B1 B2 : Nat} {L : List Lkd} (h : LkOk B1 B2 L) (j : Nat) {c : Lkd} (hc : I64 c.1 ∧ c.2.length ≤ B2 ∧ ∀ y ∈ c.2, I64 y.1 ∧ I64 y.2) : LkOk B1 B2 (L.set j c) := by
  refine ⟨by have := h.1; simp; omega, fun d hd => ?_⟩
  rcases List.mem_or_eq_of_mem_set hd with h1 | rfl
  · exact h.2 d h1
  · exact hc

theorem own_cut_blk (a : Option Addr) (n m c : Nat) : (Hdr.val (a, m, c)).ownBlock = (Hdr.val (a, n, c)).ownBlock := by cases a <;> rfl
theorem own_cut {e : TypeId} {base : Nat} {w : World} {a : Option Addr} {n m c : Nat} {l : List (Int × Int)} (h : OwnL 2 encS e base w (Hdr.val (a, n, c)) l) (hm : m ≤ l.length) : OwnL 2 encS e base w (Hdr.val (a, m, c)) (l.take m) := by
  have hml : (l.take m).length = m := by rw [List.length_take]; omega
  rcases h.2 with ⟨h1, h2⟩ | ⟨g, cap, cur, e1, e2, e3, e4, e5, e6, e7⟩
  · have h1' : a = none ∧ n = 0 ∧ c = 0 := by simpa [Hdr.val] using h1
    obtain ⟨rfl, rfl, rfl⟩ := h1'
    have hl0 : l = [] := List.eq_nil_of_length_eq_zero h2
    subst hl0
    obtain rfl : m = 0 := by simp at hm; omega
    exact h
  · have h1' : a = some ⟨g, 0, none⟩ ∧ n = l.length ∧ c = cap := by simpa [Hdr.val] using e1
    obtain ⟨rfl, rfl, rfl⟩ := h1'
    refine ⟨by rw [flatN_len (sz := 2) (fun _ => rfl)], .inr ⟨g, c, cur, by simp [Hdr.val, hml], e2, e3, by omega, e5, e6, ?_⟩⟩
    rw [hml, flatN_take (sz := 2) (fun _ => rfl), ← e7, List.take_take, Nat.min_eq_left (Nat.mul_le_mul_right _ hm)]
def LinksPost (n ch b : Nat) (w : World) (e : Ending) (w' : World) : Prop := ∃ (v : Value) (qs : List (Int × Hdr)) (L : List Lkd), e = .returned v ∧ OwnLk w.heap.size w' v qs L ∧ LkOk (n + ch) (17 + ch) L ∧ TK w' b ∧ Exb b w w'
set_option maxRecDepth 100000 in
set_option maxHeartbeats 8000000 in
theorem links_t {b : Nat} (a : Option Addr) (n cp : Nat) (l : List Nd) (lev : Int) (ch : Nat) (w : World) (h : TK w b) (hs : Slb 3 encN b w a n l) (hn : n ≤ 100) (hch : ch ≤ 10) (hw : ∀ x ∈ l, x.word < 4294967296) (hi : ∀ x ∈ l, I64 x.id) :
    Calls Tryd.prog 6 #[.pointer (some ⟨b, 0, none⟩), .slice a n cp, .int .i64 lev, .int .i64 ch] w (LinksPost n ch b w) := by
  have HI := Lib.hid hi
  have HS := Lib.hid hs
  have hbw := h.lt
  have BO := build_ok hi lev
  rw [hs.len] at BO
  clear hi
  go_enter Tryd.func6, Tryd.ntmps6
  go_wp2_with fail
  (with_reducible refine (build_r _ _ _ _ _ _ hs.sl (by omega) hw).mono ?_)
  rintro e w1 ⟨v1, q1, rfl, OQ, k1⟩
  have T := h.nx k1
  have kk := k1.b b
  generalize (buildN l lev).1 = L0 at OQ BO
  generalize (buildN l lev).2 = er
  clear h hs hw k1
  go_wp2_with fail
  refine (next_t ((ch : Int) + 1) _ T (by omega) (by omega)).mono ?_
  clear T
  rintro e w2 ⟨k, rfl, k0, k1, T, k2⟩
  obtain ⟨k, rfl⟩ := Int.eq_ofNat_of_zero_le k0
  replace OQ := OQ.nxb hbw k2
  replace kk := kk.nxb k2
  have BO := Lib.hid (lk_mono BO (show n ≤ n + (ch - k) by omega) (show 17 ≤ 17 + (ch - k) by omega))
  have hkc : k ≤ ch := by omega
  clear k2 k0 k1
  go_wp2_with fail
  go_loopw [9, 11] (fun o i wr => LsRel n ch b w o i wr) (fun _ i _ => (intOf i).toNat)
  case atStart => exact ⟨k, q1, L0, hkc, rfl, OQ, BO.out, T, kk⟩
  case round =>
    clear OQ BO T kk hkc
    obtain ⟨q, qs, L, hq, rfl, OQ, LO, T, kk⟩ := hrel
    have LO := Lib.hid LO
    obtain ⟨wo, rfl⟩ : ∃ wo : World, wo = wr := ⟨_, rfl⟩
    obtain ⟨a3, cap3, rfl, NL3, hc3, hm3, some3, _⟩ := OwnN.nl (encA := encI) (encB := encS) (s1 := 2) (s2 := 2) (fun _ => rfl) (fun _ => rfl) OQ
    have hL1 := LO.out.1
    by_cases hq0 : 0 < q
    · by_cases hL0 : L.length = 0
      · have d0 : ¬ (0 : Int) < (L.length : Int) := by omega
        have HL0 := Lib.hid hL0
        have OQ := Lib.hid OQ
        clear hL0 NL3 some3
        go_wp2_with fail
        go_ret
        exact ⟨_, qs, L, rfl, OQ.out, lk_mono LO.out (by omega) (by omega), T, kk⟩
      · obtain ⟨g, rfl, hg⟩ := some3 (fun h0 => hL0 (by rw [h0]; rfl))
        have hLp : (0 : Int) < (L.length : Int) := by omega
        have hgb : ¬ g = b := by omega
        clear some3 NL3 hL0
        go_wp2_with fail
        refine (next_t (L.length : Int) _ T (by omega) (by omega)).mono ?_
        clear T
        rintro e w3 ⟨j, rfl, j0, j1, T, k2⟩
        obtain ⟨j, rfl⟩ := Int.eq_ofNat_of_zero_le j0
        have hjl : j < L.length := by omega
        have hjl' : (j : Int) < (L.length : Int) := by omega
        replace OQ := OQ.nxb hbw k2
        replace kk := kk.nxb k2
        clear k2 j0 j1
        go_wp2_with fail
        refine (next_t 7 _ T (by omega) (by omega)).mono ?_
        clear T
        rintro e w4 ⟨r, rfl, r0, r1, T, k2⟩
        replace OQ := OQ.nxb hbw k2
        replace kk := kk.nxb k2
        clear k2
        obtain ⟨c, hc⟩ : ∃ c, L[j]? = some c := ⟨L[j], by simp⟩
        obtain ⟨⟨ha, hn3, hcp⟩, hqj, own⟩ := OwnN.get (p := 1) OQ hc
        have cok := Lib.hid (LO.out.2 c (List.mem_of_getElem? hc))
        have hqm : ((q : Int) - 1) = ((q - 1 : Nat) : Int) := by omega
        have hqsl : qs.length = L.length := OQ.2.1
        by_cases r00 : r = 0
        · subst r00
          clear cok own hqj
          go_wp2_with fail
          have OQ := OQ.nx (Ex.refl w4).drew
          have T : TK w4.drew b := T
          have kk := kk.drew
          have z0 := kk.size
          have hjc : (j : Int) ≤ (cap3 : Int) := by omega
          have hj1 : (j : Int) + 1 ≤ (L.length : Int) := by omega
          have jw : IntKind.i64.wrap ((j : Int) + 1) = (j : Int) + 1 := IntWalk.i64_in _ (by omega)
          have jt : ((j : Int) + 1).toNat = j + 1 := by omega
          have j0' : (0 : Int) ≤ (j : Int) + 1 := by omega
          have jle : j ≤ qs.length := by omega
          have hjj : (j : Int) ≤ (j : Int) + 1 := by omega
          by_cases hcap : cap3 = j + 1
          · have HRD : Sl 2 (encP encI) w4.drew (some ⟨g, 0, none⟩) (L.length - (j + 1)) (qs.drop (j + 1)) := by
              rw [show L.length - (j + 1) = 0 by omega, List.drop_of_length_le (by omega)]
              exact Sl.nil _ _ _ _
            refine wp_region_held_drew (S := fun _ => True) (by kernel_rfl) (trivial) (fun hHeld => ?_)
            refine wpAnyH_take (i := 0) (oi := { dst := some 73, op := Op.move (Operand.tmp 9), type := 28, pos := "tape.go:199", after := #[], guard := none }) (v := ?_) rfl (by kernel_rfl) (by kernel_rfl) (by kernel_rfl) (fun _ _ _ h => h) (Or.inl ⟨by rfl, ?hyr1x0q1⟩) (by assumption) ?restr1x0q1
            case hyr1x0q1 => intro wq hSw; (go_simp); (try with_reducible rfl)
            try simp only [Act.put, List.setIfInBounds_toArray, List.set_cons_zero, List.set_cons_succ]
            refine wpAnyH_take (i := 1) (oi := { dst := some 74, op := Op.move (Operand.tmp 12), type := 3, pos := "tape.go:199", after := #[], guard := none }) (v := ?_) rfl (by kernel_rfl) (by kernel_rfl) (by kernel_rfl) (fun _ _ _ h => h) (Or.inl ⟨by rfl, ?hyr1x1q4⟩) (by assumption) ?restr1x1q4
            case hyr1x1q4 => intro wq hSw; (go_simp); (try with_reducible rfl)
            try simp only [Act.put, List.setIfInBounds_toArray, List.set_cons_zero, List.set_cons_succ]
            refine wpAnyH_take (i := 2) (oi := { dst := some 75, op := Op.move (Operand.tmp 12), type := 3, pos := "tape.go:199", after := #[], guard := none }) (v := ?_) rfl (by kernel_rfl) (by kernel_rfl) (by kernel_rfl) (fun _ _ _ h => h) (Or.inl ⟨by rfl, ?hyr1x2q7⟩) (by assumption) ?restr1x2q7
            case hyr1x2q7 => intro wq hSw; (go_simp); (try with_reducible rfl)
            try simp only [Act.put, List.setIfInBounds_toArray, List.set_cons_zero, List.set_cons_succ]
            refine wpAnyH_take (i := 3) (oi := { dst := some 76, op := Op.slice 28 (Operand.tmp 73) none (some (Operand.tmp 74)) (some (Operand.tmp 75)), type := 28, pos := "tape.go:199", after := #[{ on := 0, ground := Ground.data }, { on := 1, ground := Ground.data }, { on := 2, ground := Ground.data }], guard := none }) (v := ?_) rfl (by kernel_rfl) (by kernel_rfl) (by kernel_rfl) (fun _ _ _ h => h) (Or.inl ⟨by rfl, ?hyr1x3q10⟩) (by assumption) ?restr1x3q10
            case hyr1x3q10 => intro wq hSw; (go_simp); (try with_reducible rfl)
            try simp only [Act.put, List.setIfInBounds_toArray, List.set_cons_zero, List.set_cons_succ]
            refine wpAnyH_take (i := 4) (oi := { dst := some 77, op := Op.move (Operand.tmp 9), type := 28, pos := "tape.go:199", after := #[], guard := none }) (v := ?_) rfl (by kernel_rfl) (by kernel_rfl) (by kernel_rfl) (fun _ _ _ h => h) (Or.inl ⟨by rfl, ?hyr1x4q13⟩) (by assumption) ?restr1x4q13
            case hyr1x4q13 => intro wq hSw; (go_simp); (try with_reducible rfl)
            try simp only [Act.put, List.setIfInBounds_toArray, List.set_cons_zero, List.set_cons_succ]
            refine wpAnyH_take (i := 5) (oi := { dst := some 78, op := Op.move (Operand.tmp 12), type := 3, pos := "tape.go:199", after := #[], guard := none }) (v := ?_) rfl (by kernel_rfl) (by kernel_rfl) (by kernel_rfl) (fun _ _ _ h => h) (Or.inl ⟨by rfl, ?hyr1x5q16⟩) (by assumption) ?restr1x5q16
            case hyr1x5q16 => intro wq hSw; (go_simp); (try with_reducible rfl)
            try simp only [Act.put, List.setIfInBounds_toArray, List.set_cons_zero, List.set_cons_succ]
            refine wpAnyH_take (i := 6) (oi := { dst := some 79, op := Op.binOp BinOp.add 3 (Operand.tmp 78) (Operand.const (Value.int IntKind.i64 1)) 3, type := 3, pos := "tape.go:199", after := #[{ on := 5, ground := Ground.data }], guard := none }) (v := ?_) rfl (by kernel_rfl) (by kernel_rfl) (by kernel_rfl) (fun _ _ _ h => h) (Or.inl ⟨by rfl, ?hyr1x6q19⟩) (by assumption) ?restr1x6q19
            case hyr1x6q19 => intro wq hSw; (go_simp); (try with_reducible rfl)
            try simp only [Act.put, List.setIfInBounds_toArray, List.set_cons_zero, List.set_cons_succ]
            refine wpAnyH_take (i := 7) (oi := { dst := some 80, op := Op.slice 28 (Operand.tmp 77) (some (Operand.tmp 79)) none none, type := 28, pos := "tape.go:199", after := #[{ on := 4, ground := Ground.data }, { on := 6, ground := Ground.data }], guard := none }) (v := ?_) rfl (by kernel_rfl) (by kernel_rfl) (by kernel_rfl) (fun _ _ _ h => h) (Or.inl ⟨by rfl, ?hyr1x7q22⟩) (by assumption) ?restr1x7q22
            case hyr1x7q22 => intro wq hSw; (go_simp); (try with_reducible rfl)
            try simp only [Act.put, List.setIfInBounds_toArray, List.set_cons_zero, List.set_cons_succ]
            refine wpAnyH_ready (rs := [8]) (by kernel_rfl) (by simp) ?_
            refine AllReadyH.cons (o := { dst := some 81, op := Op.call { callee := Callee.builtin Builtin.append, args := #[Operand.tmp 76, Operand.tmp 80], argTypes := #[28, 28] }, type := 28, pos := "tape.go:199", after := #[{ on := 3, ground := Ground.data }, { on := 7, ground := Ground.data }], guard := none }) rfl (fun K hK => ?_) AllReadyH.nil
            rw [if_pos (by rfl)]
            refine wp_append_W (enc := encP encI) _ (.tmp 76) (.tmp 80) 28 rfl w.heap.size 59 (.agg #[.int .i64 0, .slice none 0 0]) 2 32 Tryd.underlying28 Tryd.infoLd rfl (by omega) (by omega) _ (qs.take j) (OwnW.cut (sz := 2) (enc := encP encI) (fun _ => rfl) OQ.1 (by omega)) rfl ⟨g, 0, none⟩ (L.length - (j + 1)) _ (qs.drop (j + 1)) HRD (fun _ => rfl) (by simp [encP, encI, Hdr.val, Value.oneCell']) rfl (by simp; omega) (by omega) z0 ?_
            intro v9 w9 own9 ch0 ch1 _
            refine hK.out _ _ (trivial) (fun hHeld => ?_)
            clear hK K
            try simp only [Act.put, List.setIfInBounds_toArray, List.set_cons_zero, List.set_cons_succ]
            refine wpAnyH_take (i := 9) (oi := { dst := some 9, op := Op.assign (Operand.tmp 81), type := 28, pos := "tape.go:199", after := #[{ on := 8, ground := Ground.data }, { on := 8, ground := Ground.chain }, { on := 0, ground := Ground.phase }, { on := 1, ground := Ground.phase }, { on := 2, ground := Ground.phase }, { on := 3, ground := Ground.phase }, { on := 4, ground := Ground.phase }, { on := 5, ground := Ground.phase }, { on := 6, ground := Ground.phase }, { on := 7, ground := Ground.phase }, { on := 8, ground := Ground.phase }], guard := none }) (v := ?_) rfl (by kernel_rfl) (by kernel_rfl) (by kernel_rfl) (fun _ _ _ h => h) (Or.inl ⟨by rfl, ?hyr1x9q33⟩) (by assumption) ?restr1x9q33
            case hyr1x9q33 => intro wq hSw; (go_simp); (try with_reducible rfl)
            try simp only [Act.put, List.setIfInBounds_toArray, List.set_cons_zero, List.set_cons_succ]
            refine wpAnyH_done (by kernel_rfl) ?_ _
            replace OQ := OQ.erase (by decide) hjl own9 ch0
            replace T := TP.chg T ch1 (fun x hx => by omega)
            replace kk : Exb b w w9 := Chg.trans kk (ch1.mono (fun x hx => hx.1))
            clear HRD own9 ch0 ch1
            go_wp2_with fail
            exact ⟨⟨q - 1, _, _, by omega, by first | rfl | rw [hqm], OQ, lk_mono (lk_erase LO.out j) (by omega) (by omega), T, kk⟩, by simp [intOf]; omega⟩
          · have HRD : Sl 2 (encP encI) w4.drew (some ⟨g, (j + 1) * 2, none⟩) (L.length - (j + 1)) (qs.drop (j + 1)) := by
              obtain ⟨a', c', e', r', _⟩ := OQ.1.rd (fun _ => rfl)
              have e2 : some (⟨g, 0, none⟩ : Addr) = a' ∧ L.length = qs.length ∧ cap3 = c' := by simpa using e'
              obtain ⟨rfl, hLq, rfl⟩ := e2
              have r2 : Sl 2 (encP encI) w4.drew (some ⟨g, 0, none⟩) qs.length qs := Rd.mono r' (fun _ hk => hk.2)
              have := Sl.drop r2 (m := j + 1) (by omega)
              rw [Nat.zero_add, ← hLq] at this
              exact this
            refine wp_region_held_drew (S := fun _ => True) (by kernel_rfl) (trivial) (fun hHeld => ?_)
            refine wpAnyH_take (i := 0) (oi := { dst := some 73, op := Op.move (Operand.tmp 9), type := 28, pos := "tape.go:199", after := #[], guard := none }) (v := ?_) rfl (by kernel_rfl) (by kernel_rfl) (by kernel_rfl) (fun _ _ _ h => h) (Or.inl ⟨by rfl, ?hyr2x0q1⟩) (by assumption) ?restr2x0q1
            case hyr2x0q1 => intro wq hSw; (go_simp); (try with_reducible rfl)
            try simp only [Act.put, List.setIfInBounds_toArray, List.set_cons_zero, List.set_cons_succ]
            refine wpAnyH_take (i := 1) (oi := { dst := some 74, op := Op.move (Operand.tmp 12), type := 3, pos := "tape.go:199", after := #[], guard := none }) (v := ?_) rfl (by kernel_rfl) (by kernel_rfl) (by kernel_rfl) (fun _ _ _ h => h) (Or.inl ⟨by rfl, ?hyr2x1q4⟩) (by assumption) ?restr2x1q4
            case hyr2x1q4 => intro wq hSw; (go_simp); (try with_reducible rfl)
            try simp only [Act.put, List.setIfInBounds_toArray, List.set_cons_zero, List.set_cons_succ]
            refine wpAnyH_take (i := 2) (oi := { dst := some 75, op := Op.move (Operand.tmp 12), type := 3, pos := "tape.go:199", after := #[], guard := none }) (v := ?_) rfl (by kernel_rfl) (by kernel_rfl) (by kernel_rfl) (fun _ _ _ h => h) (Or.inl ⟨by rfl, ?hyr2x2q7⟩) (by assumption) ?restr2x2q7
            case hyr2x2q7 => intro wq hSw; (go_simp); (try with_reducible rfl)
            try simp only [Act.put, List.setIfInBounds_toArray, List.set_cons_zero, List.set_cons_succ]
            refine wpAnyH_take (i := 3) (oi := { dst := some 76, op := Op.slice 28 (Operand.tmp 73) none (some (Operand.tmp 74)) (some (Operand.tmp 75)), type := 28, pos := "tape.go:199", after := #[{ on := 0, ground := Ground.data }, { on := 1, ground := Ground.data }, { on := 2, ground := Ground.data }], guard := none }) (v := ?_) rfl (by kernel_rfl) (by kernel_rfl) (by kernel_rfl) (fun _ _ _ h => h) (Or.inl ⟨by rfl, ?hyr2x3q10⟩) (by assumption) ?restr2x3q10
            case hyr2x3q10 => intro wq hSw; (go_simp); (try with_reducible rfl)
            try simp only [Act.put, List.setIfInBounds_toArray, List.set_cons_zero, List.set_cons_succ]
            refine wpAnyH_take (i := 4) (oi := { dst := some 77, op := Op.move (Operand.tmp 9), type := 28, pos := "tape.go:199", after := #[], guard := none }) (v := ?_) rfl (by kernel_rfl) (by kernel_rfl) (by kernel_rfl) (fun _ _ _ h => h) (Or.inl ⟨by rfl, ?hyr2x4q13⟩) (by assumption) ?restr2x4q13
            case hyr2x4q13 => intro wq hSw; (go_simp); (try with_reducible rfl)
            try simp only [Act.put, List.setIfInBounds_toArray, List.set_cons_zero, List.set_cons_succ]
            refine wpAnyH_take (i := 5) (oi := { dst := some 78, op := Op.move (Operand.tmp 12), type := 3, pos := "tape.go:199", after := #[], guard := none }) (v := ?_) rfl (by kernel_rfl) (by kernel_rfl) (by kernel_rfl) (fun _ _ _ h => h) (Or.inl ⟨by rfl, ?hyr2x5q16⟩) (by assumption) ?restr2x5q16
            case hyr2x5q16 => intro wq hSw; (go_simp); (try with_reducible rfl)
            try simp only [Act.put, List.setIfInBounds_toArray, List.set_cons_zero, List.set_cons_succ]
            refine wpAnyH_take (i := 6) (oi := { dst := some 79, op := Op.binOp BinOp.add 3 (Operand.tmp 78) (Operand.const (Value.int IntKind.i64 1)) 3, type := 3, pos := "tape.go:199", after := #[{ on := 5, ground := Ground.data }], guard := none }) (v := ?_) rfl (by kernel_rfl) (by kernel_rfl) (by kernel_rfl) (fun _ _ _ h => h) (Or.inl ⟨by rfl, ?hyr2x6q19⟩) (by assumption) ?restr2x6q19
            case hyr2x6q19 => intro wq hSw; (go_simp); (try with_reducible rfl)
            try simp only [Act.put, List.setIfInBounds_toArray, List.set_cons_zero, List.set_cons_succ]
            refine wpAnyH_take (i := 7) (oi := { dst := some 80, op := Op.slice 28 (Operand.tmp 77) (some (Operand.tmp 79)) none none, type := 28, pos := "tape.go:199", after := #[{ on := 4, ground := Ground.data }, { on := 6, ground := Ground.data }], guard := none }) (v := ?_) rfl (by kernel_rfl) (by kernel_rfl) (by kernel_rfl) (fun _ _ _ h => h) (Or.inl ⟨by rfl, ?hyr2x7q22⟩) (by assumption) ?restr2x7q22
            case hyr2x7q22 => intro wq hSw; (go_simp); (try with_reducible rfl)
            try simp only [Act.put, List.setIfInBounds_toArray, List.set_cons_zero, List.set_cons_succ]
            refine wpAnyH_ready (rs := [8]) (by kernel_rfl) (by simp) ?_
            refine AllReadyH.cons (o := { dst := some 81, op := Op.call { callee := Callee.builtin Builtin.append, args := #[Operand.tmp 76, Operand.tmp 80], argTypes := #[28, 28] }, type := 28, pos := "tape.go:199", after := #[{ on := 3, ground := Ground.data }, { on := 7, ground := Ground.data }], guard := none }) rfl (fun K hK => ?_) AllReadyH.nil
            rw [if_pos (by rfl)]
            refine wp_append_W (enc := encP encI) _ (.tmp 76) (.tmp 80) 28 rfl w.heap.size 59 (.agg #[.int .i64 0, .slice none 0 0]) 2 32 Tryd.underlying28 Tryd.infoLd rfl (by omega) (by omega) _ (qs.take j) (OwnW.cut (sz := 2) (enc := encP encI) (fun _ => rfl) OQ.1 (by omega)) rfl ⟨g, (j + 1) * 2, none⟩ (L.length - (j + 1)) _ (qs.drop (j + 1)) HRD (fun _ => rfl) (by simp [encP, encI, Hdr.val, Value.oneCell']) rfl (by simp; omega) (by omega) z0 ?_
            intro v9 w9 own9 ch0 ch1 _
            refine hK.out _ _ (trivial) (fun hHeld => ?_)
            clear hK K
            try simp only [Act.put, List.setIfInBounds_toArray, List.set_cons_zero, List.set_cons_succ]
            refine wpAnyH_take (i := 9) (oi := { dst := some 9, op := Op.assign (Operand.tmp 81), type := 28, pos := "tape.go:199", after := #[{ on := 8, ground := Ground.data }, { on := 8, ground := Ground.chain }, { on := 0, ground := Ground.phase }, { on := 1, ground := Ground.phase }, { on := 2, ground := Ground.phase }, { on := 3, ground := Ground.phase }, { on := 4, ground := Ground.phase }, { on := 5, ground := Ground.phase }, { on := 6, ground := Ground.phase }, { on := 7, ground := Ground.phase }, { on := 8, ground := Ground.phase }], guard := none }) (v := ?_) rfl (by kernel_rfl) (by kernel_rfl) (by kernel_rfl) (fun _ _ _ h => h) (Or.inl ⟨by rfl, ?hyr2x9q33⟩) (by assumption) ?restr2x9q33
            case hyr2x9q33 => intro wq hSw; (go_simp); (try with_reducible rfl)
            try simp only [Act.put, List.setIfInBounds_toArray, List.set_cons_zero, List.set_cons_succ]
            refine wpAnyH_done (by kernel_rfl) ?_ _
            replace OQ := OQ.erase (by decide) hjl own9 ch0
            replace T := TP.chg T ch1 (fun x hx => by omega)
            replace kk : Exb b w w9 := Chg.trans kk (ch1.mono (fun x hx => hx.1))
            clear HRD own9 ch0 ch1
            go_wp2_with fail
            exact ⟨⟨q - 1, _, _, by omega, by first | rfl | rw [hqm], OQ, lk_mono (lk_erase LO.out j) (by omega) (by omega), T, kk⟩, by simp [intOf]; omega⟩
        by_cases r01 : r = 1
        · subst r01
          clear r00 cok own hqj
          go_wp2_with fail
          refine (id_t _ _ _ _ _ T (HS.out.nxb kk) (by omega) HI.out).mono ?_
          clear T
          rintro e w5 ⟨i1, rfl, I1, T, k2⟩
          replace OQ := OQ.nxb hbw k2
          replace kk := kk.nxb k2
          clear k2
          go_wp2_with fail
          refine (id_t _ _ _ _ _ T (HS.out.nxb kk) (by omega) HI.out).mono ?_
          clear T
          rintro e w6 ⟨i2, rfl, I2, T, k2⟩
          replace OQ := OQ.nxb hbw k2
          replace kk := kk.nxb k2
          clear k2
          go_wp2_with fail
          refine (id_t _ _ _ _ _ T (HS.out.nxb kk) (by omega) HI.out).mono ?_
          clear T
          rintro e w7 ⟨i3, rfl, I3, T, k2⟩
          replace OQ := OQ.nxb hbw k2
          replace kk := kk.nxb k2
          clear k2
          have zz := kk.size
          have kA := Ex.new w7 (.cells #[.int .i64 i2, .int .i64 i3] 56)
          have ownI : OwnL 2 encS 56 w.heap.size (w7.alloc (.cells #[.int .i64 i2, .int .i64 i3] 56)) (.slice (some ⟨w7.heap.size, 0, none⟩) 1 1) [(i2, i3)] := OwnL.lit [(i2, i3)] (fun _ => rfl) zz (by unfold maxLen; simp) rfl
          have kB := Ex.new (w7.alloc (.cells #[.int .i64 i2, .int .i64 i3] 56)) (.cells #[.int .i64 i1, .slice (some ⟨w7.heap.size, 0, none⟩) 1 1] 59)
          have SX : Sl 2 (encP encI) ((w7.alloc (.cells #[.int .i64 i2, .int .i64 i3] 56)).alloc (.cells #[.int .i64 i1, .slice (some ⟨w7.heap.size, 0, none⟩) 1 1] 59)) (some ⟨(w7.alloc (.cells #[.int .i64 i2, .int .i64 i3] 56)).heap.size, 0, none⟩) 1 [((i1, (some ⟨w7.heap.size, 0, none⟩, 1, 1)) : Int × Hdr)] := Sl.lit _ rfl rfl (fun _ => rfl) rfl
          have FR : ∀ (j : Nat) (r : Int × Hdr) (x : Nat), qs[j]? = some r → r.2.val.ownBlock = some x → ¬ (Value.slice (some ⟨w7.heap.size, 0, none⟩) 1 1).ownBlock = some x := by
            intro j r x hr hx hv
            have h1 := OQ.lt hr hx
            simp [Value.ownBlock] at hv
            omega
          have OQ2 := (OQ.nx kA).nx kB
          have ownI2 := ownI.nx kB
          have T2 := (T.nx kA).nx kB
          have kk2 := (kk.nxb (kA.b b)).nxb (kB.b b)
          have zz2 := kk2.size
          have HSX : (w7.alloc (.cells #[.int .i64 i2, .int .i64 i3] 56)).heap.size = w7.heap.size + 1 := by simp
          rw [HSX] at SX
          clear ownI OQ T kk kA kB HSX
          go_wp2_with (at_builtin; (refine wpList_append_W (enc := encP encI) _ rfl _ _ 28 rfl w.heap.size 59 (.agg #[.int .i64 0, .slice none 0 0]) 2 32 Tryd.underlying28 Tryd.infoLd rfl (by omega) (by omega) _ qs OQ2.1 rfl _ 1 1 [_] SX (fun _ => rfl) (by simp [encP, encI, Hdr.val, Value.oneCell']) rfl (by omega) (by omega) zz2 ?_); intro v9 w9 own9 ch0 ch1 _)
          have OQ := OQ2.push (by decide) own9 ch0 ownI2 FR
          have T := TP.chg T2 ch1 (fun x hx => by omega)
          have kk : Exb b w w9 := Chg.trans kk2 (ch1.mono (fun x hx => hx.1))
          exact ⟨⟨q - 1, _, _, by omega, by first | rfl | rw [hqm], OQ, lk_mono (lk_push LO.out ⟨I1, by show 1 ≤ _; omega, fun y hy => by rw [List.mem_singleton.1 hy]; exact ⟨I2, I3⟩⟩) (by omega) (by omega), T, kk⟩, by simp [intOf]; omega⟩
        by_cases r02 : r = 2
        · subst r02
          clear r00 r01
          obtain ⟨a6, c6, e6, r6, hc6, _, some6⟩ := own.rd (fun _ => rfl)
          obtain ⟨rfl, hn3e, rfl⟩ : ha = a6 ∧ hn3 = c.2.length ∧ hcp = c6 := by simpa [Hdr.val] using e6
          have HN3 := Lib.hid hn3e
          have hcl : hn3 ≤ 17 + (ch - q) := by rw [hn3e]; exact cok.out.2.1
          rw [← hn3e] at hc6
          have jw3 : IntKind.i64.wrap ((hn3 : Int) + 1) = (hn3 : Int) + 1 := IntWalk.i64_in _ (by omega)
          clear hn3e
          clear e6 r6 some6
          have OQ := OQ.nx (Ex.refl w4).drew
          have own := own.nx (Ex.refl w4).drew
          have T : TK w4.drew b := T
          have kk := kk.drew
          have CE : ∀ cur : World, OwnLk w.heap.size cur (.slice (some ⟨g, 0, none⟩) L.length cap3) qs L → cur.cell? ⟨g, j * 2 + 1, none⟩ = some (.slice ha hn3 hcp) := fun cur h => by
            have := (OwnW.set1 (sz := 2) (enc := encP encI) (c := 1) (fun _ => rfl) h.1 hqj (by omega)).1
            exact this
          go_wp2_with fail
          refine wp_region_held_drew (S := fun _ => True) (by kernel_rfl) (trivial) (fun hHeld => ?_)
          refine wpAnyH_take (i := 0) (oi := { dst := some 101, op := Op.move (Operand.tmp 9), type := 28, pos := "tape.go:203", after := #[], guard := none }) (v := ?_) rfl (by kernel_rfl) (by kernel_rfl) (by kernel_rfl) (fun _ _ _ h => h) (Or.inl ⟨by rfl, ?hyr3x0q1⟩) (by assumption) ?restr3x0q1
          case hyr3x0q1 => intro wq hSw; (go_simp); (try with_reducible rfl)
          try simp only [Act.put, List.setIfInBounds_toArray, List.set_cons_zero, List.set_cons_succ]
          refine wpAnyH_take (i := 1) (oi := { dst := some 102, op := Op.move (Operand.tmp 12), type := 3, pos := "tape.go:203", after := #[], guard := none }) (v := ?_) rfl (by kernel_rfl) (by kernel_rfl) (by kernel_rfl) (fun _ _ _ h => h) (Or.inl ⟨by rfl, ?hyr3x1q4⟩) (by assumption) ?restr3x1q4
          case hyr3x1q4 => intro wq hSw; (go_simp); (try with_reducible rfl)
          try simp only [Act.put, List.setIfInBounds_toArray, List.set_cons_zero, List.set_cons_succ]
          refine wpAnyH_take (i := 2) (oi := { dst := some 103, op := Op.move (Operand.tmp 9), type := 28, pos := "tape.go:203", after := #[], guard := none }) (v := ?_) rfl (by kernel_rfl) (by kernel_rfl) (by kernel_rfl) (fun _ _ _ h => h) (Or.inl ⟨by rfl, ?hyr3x2q7⟩) (by assumption) ?restr3x2q7
          case hyr3x2q7 => intro wq hSw; (go_simp); (try with_reducible rfl)
          try simp only [Act.put, List.setIfInBounds_toArray, List.set_cons_zero, List.set_cons_succ]
          refine wpAnyH_take (i := 3) (oi := { dst := some 104, op := Op.move (Operand.tmp 12), type := 3, pos := "tape.go:203", after := #[], guard := none }) (v := ?_) rfl (by kernel_rfl) (by kernel_rfl) (by kernel_rfl) (fun _ _ _ h => h) (Or.inl ⟨by rfl, ?hyr3x3q10⟩) (by assumption) ?restr3x3q10
          case hyr3x3q10 => intro wq hSw; (go_simp); (try with_reducible rfl)
          try simp only [Act.put, List.setIfInBounds_toArray, List.set_cons_zero, List.set_cons_succ]
          refine wpAnyH_take (i := 4) (oi := { dst := some 105, op := Op.indexAddr 28 (Operand.tmp 103) (Operand.tmp 104), type := 0, pos := "tape.go:203", after := #[{ on := 2, ground := Ground.data }, { on := 3, ground := Ground.data }], guard := none }) (v := ?_) rfl (by kernel_rfl) (by kernel_rfl) (by kernel_rfl) (fun _ _ _ h => h) (Or.inl ⟨by rfl, ?hyr3x4q13⟩) (by assumption) ?restr3x4q13
          case hyr3x4q13 => intro wq hSw; (go_simp); (try with_reducible rfl)
          try simp only [Act.put, List.setIfInBounds_toArray, List.set_cons_zero, List.set_cons_succ]
          refine wpAnyH_take (i := 5) (oi := { dst := some 106, op := Op.fieldAddr 59 (Operand.tmp 105) 1, type := 0, pos := "tape.go:203", after := #[{ on := 4, ground := Ground.data }], guard := none }) (v := ?_) rfl (by kernel_rfl) (by kernel_rfl) (by kernel_rfl) (fun _ _ _ h => h) (Or.inl ⟨by rfl, ?hyr3x5q16⟩) (by assumption) ?restr3x5q16
          case hyr3x5q16 => intro wq hSw; (go_simp); (try with_reducible rfl)
          try simp only [Act.put, List.setIfInBounds_toArray, List.set_cons_zero, List.set_cons_succ]
          refine wpAnyH_take (i := 7) (oi := { dst := some 108, op := Op.move (Operand.tmp 0), type := 24, pos := "tape.go:203", after := #[], guard := none }) (v := ?_) rfl (by kernel_rfl) (by kernel_rfl) (by kernel_rfl) (fun _ _ _ h => h) (Or.inl ⟨by rfl, ?hyr3x7q19⟩) (by assumption) ?restr3x7q19
          case hyr3x7q19 => intro wq hSw; (go_simp); (try with_reducible rfl)
          try simp only [Act.put, List.setIfInBounds_toArray, List.set_cons_zero, List.set_cons_succ]
          refine wpAnyH_take (i := 8) (oi := { dst := some 109, op := Op.move (Operand.tmp 9), type := 28, pos := "tape.go:203", after := #[], guard := none }) (v := ?_) rfl (by kernel_rfl) (by kernel_rfl) (by kernel_rfl) (fun _ _ _ h => h) (Or.inl ⟨by rfl, ?hyr3x8q22⟩) (by assumption) ?restr3x8q22
          case hyr3x8q22 => intro wq hSw; (go_simp); (try with_reducible rfl)
          try simp only [Act.put, List.setIfInBounds_toArray, List.set_cons_zero, List.set_cons_succ]
          refine wpAnyH_take (i := 9) (oi := { dst := some 110, op := Op.move (Operand.tmp 12), type := 3, pos := "tape.go:203", after := #[], guard := none }) (v := ?_) rfl (by kernel_rfl) (by kernel_rfl) (by kernel_rfl) (fun _ _ _ h => h) (Or.inl ⟨by rfl, ?hyr3x9q25⟩) (by assumption) ?restr3x9q25
          case hyr3x9q25 => intro wq hSw; (go_simp); (try with_reducible rfl)
          try simp only [Act.put, List.setIfInBounds_toArray, List.set_cons_zero, List.set_cons_succ]
          refine wpAnyH_take (i := 10) (oi := { dst := some 111, op := Op.indexAddr 28 (Operand.tmp 109) (Operand.tmp 110), type := 0, pos := "tape.go:203", after := #[{ on := 8, ground := Ground.data }, { on := 9, ground := Ground.data }], guard := none }) (v := ?_) rfl (by kernel_rfl) (by kernel_rfl) (by kernel_rfl) (fun _ _ _ h => h) (Or.inl ⟨by rfl, ?hyr3x10q28⟩) (by assumption) ?restr3x10q28
          case hyr3x10q28 => intro wq hSw; (go_simp); (try with_reducible rfl)
          try simp only [Act.put, List.setIfInBounds_toArray, List.set_cons_zero, List.set_cons_succ]
          refine wpAnyH_take (i := 11) (oi := { dst := some 112, op := Op.fieldAddr 59 (Operand.tmp 111) 1, type := 0, pos := "tape.go:203", after := #[{ on := 10, ground := Ground.data }], guard := none }) (v := ?_) rfl (by kernel_rfl) (by kernel_rfl) (by kernel_rfl) (fun _ _ _ h => h) (Or.inl ⟨by rfl, ?hyr3x11q31⟩) (by assumption) ?restr3x11q31
          case hyr3x11q31 => intro wq hSw; (go_simp); (try with_reducible rfl)
          try simp only [Act.put, List.setIfInBounds_toArray, List.set_cons_zero, List.set_cons_succ]
          refine wpAnyH_ready (rs := [6, 12]) (by kernel_rfl) (by simp) ?_
          refine AllReadyH.cons (o := { dst := some 107, op := Op.load 57 (Operand.tmp 106), type := 57, pos := "tape.go:203", after := #[{ on := 5, ground := Ground.data }], guard := none }) rfl (fun K hK => ?_) ?_
          · have cq := CE _ OQ
            go_simp
            clear cq
            refine hK.out _ _ (trivial) (fun hHeld => ?_)
            clear hK K
            try simp only [Act.put, List.setIfInBounds_toArray, List.set_cons_zero, List.set_cons_succ]
            refine wpAnyH_ready (rs := [12]) (by kernel_rfl) (by simp) ?_
            refine AllReadyH.cons (o := { dst := some 113, op := Op.load 57 (Operand.tmp 112), type := 57, pos := "tape.go:203", after := #[{ on := 11, ground := Ground.data }], guard := none }) rfl (fun K hK => ?_) AllReadyH.nil
            have cq := CE _ OQ
            go_simp
            clear cq
            refine hK.out _ _ (trivial) (fun hHeld => ?_)
            clear hK K
            try simp only [Act.put, List.setIfInBounds_toArray, List.set_cons_zero, List.set_cons_succ]
            refine wpAnyH_take (i := 13) (oi := { dst := some 114, op := Op.call { callee := Callee.builtin Builtin.len, args := #[Operand.tmp 113], argTypes := #[57] }, type := 3, pos := "tape.go:203", after := #[{ on := 12, ground := Ground.data }], guard := none }) (v := ?_) rfl (by kernel_rfl) (by kernel_rfl) (by kernel_rfl) (fun _ _ _ h => h) (Or.inl ⟨by rfl, ?hyr3x13q50⟩) (by assumption) ?restr3x13q50
            case hyr3x13q50 => intro wq hSw; (go_simp); (try with_reducible rfl)
            try simp only [Act.put, List.setIfInBounds_toArray, List.set_cons_zero, List.set_cons_succ]
            refine wpAnyH_take (i := 14) (oi := { dst := some 115, op := Op.binOp BinOp.add 3 (Operand.tmp 114) (Operand.const (Value.int IntKind.i64 1)) 3, type := 3, pos := "tape.go:203", after := #[{ on := 13, ground := Ground.data }], guard := none }) (v := ?_) rfl (by kernel_rfl) (by kernel_rfl) (by kernel_rfl) (fun _ _ _ h => h) (Or.inl ⟨by rfl, ?hyr3x14q53⟩) (by assumption) ?restr3x14q53
            case hyr3x14q53 => intro wq hSw; (go_simp); (try with_reducible rfl)
            try simp only [Act.put, List.setIfInBounds_toArray, List.set_cons_zero, List.set_cons_succ]
            refine wpAnyH_ready (rs := [15]) (by kernel_rfl) (by simp) ?_
            refine AllReadyH.cons (o := { dst := some 116, op := Op.call { callee := Callee.value (Operand.func 16), args := #[Operand.tmp 108, Operand.tmp 115], argTypes := #[24, 3] }, type := 3, pos := "tape.go:203", after := #[{ on := 7, ground := Ground.data }, { on := 14, ground := Ground.data }], guard := none }) rfl (fun K hK => ?_) AllReadyH.nil
            go_simp
            ((with_reducible refine (next_t ((hn3 : Int) + 1) _ T (by omega) (by omega)).mono ?_))
            clear T
            rintro e w5 ⟨m, rfl, m0, m1, T, k2⟩
            obtain ⟨m, rfl⟩ := Int.eq_ofNat_of_zero_le m0
            replace OQ := OQ.nxb hbw k2
            replace own := own.nxb hbw k2
            replace kk := kk.nxb k2
            clear k2
            have hmc : (m : Int) ≤ (hcp : Int) := by omega
            have hml : m ≤ c.2.length := by rw [← HN3.out]; omega
            refine hK.out _ _ (trivial) (fun hHeld => ?_)
            clear hK K
            try simp only [Act.put, List.setIfInBounds_toArray, List.set_cons_zero, List.set_cons_succ]
            refine wpAnyH_take (i := 16) (oi := { dst := some 117, op := Op.slice 57 (Operand.tmp 107) none (some (Operand.tmp 116)) none, type := 57, pos := "tape.go:203", after := #[{ on := 6, ground := Ground.data }, { on := 15, ground := Ground.data }], guard := none }) (v := ?_) rfl (by kernel_rfl) (by kernel_rfl) (by kernel_rfl) (fun _ _ _ h => h) (Or.inl ⟨by rfl, ?hyr3x16q72⟩) (by assumption) ?restr3x16q72
            case hyr3x16q72 => intro wq hSw; (go_simp); (try with_reducible rfl)
            try simp only [Act.put, List.setIfInBounds_toArray, List.set_cons_zero, List.set_cons_succ]
            refine wpAnyH_take (i := 17) (oi := { dst := some 118, op := Op.indexAddr 28 (Operand.tmp 101) (Operand.tmp 102), type := 0, pos := "tape.go:203", after := #[{ on := 0, ground := Ground.data }, { on := 1, ground := Ground.data }, { on := 0, ground := Ground.phase }, { on := 1, ground := Ground.phase }, { on := 2, ground := Ground.phase }, { on := 3, ground := Ground.phase }, { on := 4, ground := Ground.phase }, { on := 5, ground := Ground.phase }, { on := 6, ground := Ground.phase }, { on := 7, ground := Ground.phase }, { on := 8, ground := Ground.phase }, { on := 9, ground := Ground.phase }, { on := 10, ground := Ground.phase }, { on := 11, ground := Ground.phase }, { on := 12, ground := Ground.phase }, { on := 13, ground := Ground.phase }, { on := 14, ground := Ground.phase }, { on := 15, ground := Ground.phase }, { on := 16, ground := Ground.phase }], guard := none }) (v := ?_) rfl (by kernel_rfl) (by kernel_rfl) (by kernel_rfl) (fun _ _ _ h => h) (Or.inl ⟨by rfl, ?hyr3x17q75⟩) (by assumption) ?restr3x17q75
            case hyr3x17q75 => intro wq hSw; (go_simp); (try with_reducible rfl)
            try simp only [Act.put, List.setIfInBounds_toArray, List.set_cons_zero, List.set_cons_succ]
            refine wpAnyH_take (i := 18) (oi := { dst := some 119, op := Op.fieldAddr 59 (Operand.tmp 118) 1, type := 0, pos := "tape.go:203", after := #[{ on := 17, ground := Ground.data }, { on := 0, ground := Ground.phase }, { on := 1, ground := Ground.phase }, { on := 2, ground := Ground.phase }, { on := 3, ground := Ground.phase }, { on := 4, ground := Ground.phase }, { on := 5, ground := Ground.phase }, { on := 6, ground := Ground.phase }, { on := 7, ground := Ground.phase }, { on := 8, ground := Ground.phase }, { on := 9, ground := Ground.phase }, { on := 10, ground := Ground.phase }, { on := 11, ground := Ground.phase }, { on := 12, ground := Ground.phase }, { on := 13, ground := Ground.phase }, { on := 14, ground := Ground.phase }, { on := 15, ground := Ground.phase }, { on := 16, ground := Ground.phase }], guard := none }) (v := ?_) rfl (by kernel_rfl) (by kernel_rfl) (by kernel_rfl) (fun _ _ _ h => h) (Or.inl ⟨by rfl, ?hyr3x18q78⟩) (by assumption) ?restr3x18q78
            case hyr3x18q78 => intro wq hSw; (go_simp); (try with_reducible rfl)
            try simp only [Act.put, List.setIfInBounds_toArray, List.set_cons_zero, List.set_cons_succ]
            refine wpAnyH_ready (rs := [19]) (by kernel_rfl) (by simp) ?_
            refine AllReadyH.cons (o := { dst := none, op := Op.store 57 (Operand.tmp 119) (Operand.tmp 117), type := 0, pos := "tape.go:203", after := #[{ on := 18, ground := Ground.data }, { on := 16, ground := Ground.data }, { on := 15, ground := Ground.chain }, { on := 0, ground := Ground.phase }, { on := 1, ground := Ground.phase }, { on := 2, ground := Ground.phase }, { on := 3, ground := Ground.phase }, { on := 4, ground := Ground.phase }, { on := 5, ground := Ground.phase }, { on := 6, ground := Ground.phase }, { on := 7, ground := Ground.phase }, { on := 8, ground := Ground.phase }, { on := 9, ground := Ground.phase }, { on := 10, ground := Ground.phase }, { on := 11, ground := Ground.phase }, { on := 12, ground := Ground.phase }, { on := 13, ground := Ground.phase }, { on := 14, ground := Ground.phase }, { on := 15, ground := Ground.phase }, { on := 16, ground := Ground.phase }], guard := none }) rfl (fun K hK => ?_) AllReadyH.nil
            obtain ⟨pc, pf, OQ2⟩ := OwnN.put (p := 1) (fun _ => rfl) (by decide) OQ hqj (hd' := (ha, m, hcp)) (c' := c.2.take m) (own_cut own hml) (Chg.refl _ _) (.inl (own_cut_blk ha hn3 m hcp))
            go_simp
            clear pc pf OQ
            refine hK.out _ _ (trivial) (fun hHeld => ?_)
            clear hK K
            try simp only [Act.put, List.setIfInBounds_toArray, List.set_cons_zero, List.set_cons_succ]
            refine wpAnyH_done (by kernel_rfl) ?_ _
            have T := T.set (p := ⟨g, j * 2 + 1, none⟩) (Hdr.val (ha, m, hcp)) (by show b < g; omega)
            have kk := kk.setNew (p := ⟨g, j * 2 + 1, none⟩) (Hdr.val (ha, m, hcp)) hg
            have OQ := OQ2
            clear OQ2 own
            go_wp2_with fail
            exact ⟨⟨q - 1, _, _, by omega, by first | rfl | rw [hqm], OQ, lk_mono (lk_set LO.out j ⟨cok.out.1, by show (c.2.take m).length ≤ _; rw [List.length_take, ← HN3.out]; omega, fun y hy => cok.out.2.2 y (List.mem_of_mem_take hy)⟩) (by omega) (by omega), T, kk⟩, by simp [intOf]; omega⟩
          refine AllReadyH.cons (o := { dst := some 113, op := Op.load 57 (Operand.tmp 112), type := 57, pos := "tape.go:203", after := #[{ on := 11, ground := Ground.data }], guard := none }) rfl (fun K hK => ?_) AllReadyH.nil
          · have cq := CE _ OQ
            go_simp
            clear cq
            refine hK.out _ _ (trivial) (fun hHeld => ?_)
            clear hK K
            try simp only [Act.put, List.setIfInBounds_toArray, List.set_cons_zero, List.set_cons_succ]
            refine wpAnyH_take (i := 13) (oi := { dst := some 114, op := Op.call { callee := Callee.builtin Builtin.len, args := #[Operand.tmp 113], argTypes := #[57] }, type := 3, pos := "tape.go:203", after := #[{ on := 12, ground := Ground.data }], guard := none }) (v := ?_) rfl (by kernel_rfl) (by kernel_rfl) (by kernel_rfl) (fun _ _ _ h => h) (Or.inl ⟨by rfl, ?hyr3x13q98⟩) (by assumption) ?restr3x13q98
            case hyr3x13q98 => intro wq hSw; (go_simp); (try with_reducible rfl)
            try simp only [Act.put, List.setIfInBounds_toArray, List.set_cons_zero, List.set_cons_succ]
            refine wpAnyH_take (i := 14) (oi := { dst := some 115, op := Op.binOp BinOp.add 3 (Operand.tmp 114) (Operand.const (Value.int IntKind.i64 1)) 3, type := 3, pos := "tape.go:203", after := #[{ on := 13, ground := Ground.data }], guard := none }) (v := ?_) rfl (by kernel_rfl) (by kernel_rfl) (by kernel_rfl) (fun _ _ _ h => h) (Or.inl ⟨by rfl, ?hyr3x14q101⟩) (by assumption) ?restr3x14q101
            case hyr3x14q101 => intro wq hSw; (go_simp); (try with_reducible rfl)
            try simp only [Act.put, List.setIfInBounds_toArray, List.set_cons_zero, List.set_cons_succ]
            refine wpAnyH_ready (rs := [6, 15]) (by kernel_rfl) (by simp) ?_
            refine AllReadyH.cons (o := { dst := some 107, op := Op.load 57 (Operand.tmp 106), type := 57, pos := "tape.go:203", after := #[{ on := 5, ground := Ground.data }], guard := none }) rfl (fun K hK => ?_) ?_
            · have cq := CE _ OQ
              go_simp
              clear cq
              refine hK.out _ _ (trivial) (fun hHeld => ?_)
              clear hK K
              try simp only [Act.put, List.setIfInBounds_toArray, List.set_cons_zero, List.set_cons_succ]
              refine wpAnyH_ready (rs := [15]) (by kernel_rfl) (by simp) ?_
              refine AllReadyH.cons (o := { dst := some 116, op := Op.call { callee := Callee.value (Operand.func 16), args := #[Operand.tmp 108, Operand.tmp 115], argTypes := #[24, 3] }, type := 3, pos := "tape.go:203", after := #[{ on := 7, ground := Ground.data }, { on := 14, ground := Ground.data }], guard := none }) rfl (fun K hK => ?_) AllReadyH.nil
              go_simp
              ((with_reducible refine (next_t ((hn3 : Int) + 1) _ T (by omega) (by omega)).mono ?_))
              clear T
              rintro e w5 ⟨m, rfl, m0, m1, T, k2⟩
              obtain ⟨m, rfl⟩ := Int.eq_ofNat_of_zero_le m0
              replace OQ := OQ.nxb hbw k2
              replace own := own.nxb hbw k2
              replace kk := kk.nxb k2
              clear k2
              have hmc : (m : Int) ≤ (hcp : Int) := by omega
              have hml : m ≤ c.2.length := by rw [← HN3.out]; omega
              refine hK.out _ _ (trivial) (fun hHeld => ?_)
              clear hK K
              try simp only [Act.put, List.setIfInBounds_toArray, List.set_cons_zero, List.set_cons_succ]
              refine wpAnyH_take (i := 16) (oi := { dst := some 117, op := Op.slice 57 (Operand.tmp 107) none (some (Operand.tmp 116)) none, type := 57, pos := "tape.go:203", after := #[{ on := 6, ground := Ground.data }, { on := 15, ground := Ground.data }], guard := none }) (v := ?_) rfl (by kernel_rfl) (by kernel_rfl) (by kernel_rfl) (fun _ _ _ h => h) (Or.inl ⟨by rfl, ?hyr3x16q128⟩) (by assumption) ?restr3x16q128
              case hyr3x16q128 => intro wq hSw; (go_simp); (try with_reducible rfl)
              try simp only [Act.put, List.setIfInBounds_toArray, List.set_cons_zero, List.set_cons_succ]
              refine wpAnyH_take (i := 17) (oi := { dst := some 118, op := Op.indexAddr 28 (Operand.tmp 101) (Operand.tmp 102), type := 0, pos := "tape.go:203", after := #[{ on := 0, ground := Ground.data }, { on := 1, ground := Ground.data }, { on := 0, ground := Ground.phase }, { on := 1, ground := Ground.phase }, { on := 2, ground := Ground.phase }, { on := 3, ground := Ground.phase }, { on := 4, ground := Ground.phase }, { on := 5, ground := Ground.phase }, { on := 6, ground := Ground.phase }, { on := 7, ground := Ground.phase }, { on := 8, ground := Ground.phase }, { on := 9, ground := Ground.phase }, { on := 10, ground := Ground.phase }, { on := 11, ground := Ground.phase }, { on := 12, ground := Ground.phase }, { on := 13, ground := Ground.phase }, { on := 14, ground := Ground.phase }, { on := 15, ground := Ground.phase }, { on := 16, ground := Ground.phase }], guard := none }) (v := ?_) rfl (by kernel_rfl) (by kernel_rfl) (by kernel_rfl) (fun _ _ _ h => h) (Or.inl ⟨by rfl, ?hyr3x17q131⟩) (by assumption) ?restr3x17q131
              case hyr3x17q131 => intro wq hSw; (go_simp); (try with_reducible rfl)
              try simp only [Act.put, List.setIfInBounds_toArray, List.set_cons_zero, List.set_cons_succ]
              refine wpAnyH_take (i := 18) (oi := { dst := some 119, op := Op.fieldAddr 59 (Operand.tmp 118) 1, type := 0, pos := "tape.go:203", after := #[{ on := 17, ground := Ground.data }, { on := 0, ground := Ground.phase }, { on := 1, ground := Ground.phase }, { on := 2, ground := Ground.phase }, { on := 3, ground := Ground.phase }, { on := 4, ground := Ground.phase }, { on := 5, ground := Ground.phase }, { on := 6, ground := Ground.phase }, { on := 7, ground := Ground.phase }, { on := 8, ground := Ground.phase }, { on := 9, ground := Ground.phase }, { on := 10, ground := Ground.phase }, { on := 11, ground := Ground.phase }, { on := 12, ground := Ground.phase }, { on := 13, ground := Ground.phase }, { on := 14, ground := Ground.phase }, { on := 15, ground := Ground.phase }, { on := 16, ground := Ground.phase }], guard := none }) (v := ?_) rfl (by kernel_rfl) (by kernel_rfl) (by kernel_rfl) (fun _ _ _ h => h) (Or.inl ⟨by rfl, ?hyr3x18q134⟩) (by assumption) ?restr3x18q134
              case hyr3x18q134 => intro wq hSw; (go_simp); (try with_reducible rfl)
              try simp only [Act.put, List.setIfInBounds_toArray, List.set_cons_zero, List.set_cons_succ]
              refine wpAnyH_ready (rs := [19]) (by kernel_rfl) (by simp) ?_
              refine AllReadyH.cons (o := { dst := none, op := Op.store 57 (Operand.tmp 119) (Operand.tmp 117), type := 0, pos := "tape.go:203", after := #[{ on := 18, ground := Ground.data }, { on := 16, ground := Ground.data }, { on := 15, ground := Ground.chain }, { on := 0, ground := Ground.phase }, { on := 1, ground := Ground.phase }, { on := 2, ground := Ground.phase }, { on := 3, ground := Ground.phase }, { on := 4, ground := Ground.phase }, { on := 5, ground := Ground.phase }, { on := 6, ground := Ground.phase }, { on := 7, ground := Ground.phase }, { on := 8, ground := Ground.phase }, { on := 9, ground := Ground.phase }, { on := 10, ground := Ground.phase }, { on := 11, ground := Ground.phase }, { on := 12, ground := Ground.phase }, { on := 13, ground := Ground.phase }, { on := 14, ground := Ground.phase }, { on := 15, ground := Ground.phase }, { on := 16, ground := Ground.phase }], guard := none }) rfl (fun K hK => ?_) AllReadyH.nil
              obtain ⟨pc, pf, OQ2⟩ := OwnN.put (p := 1) (fun _ => rfl) (by decide) OQ hqj (hd' := (ha, m, hcp)) (c' := c.2.take m) (own_cut own hml) (Chg.refl _ _) (.inl (own_cut_blk ha hn3 m hcp))
              go_simp
              clear pc pf OQ
              refine hK.out _ _ (trivial) (fun hHeld => ?_)
              clear hK K
              try simp only [Act.put, List.setIfInBounds_toArray, List.set_cons_zero, List.set_cons_succ]
              refine wpAnyH_done (by kernel_rfl) ?_ _
              have T := T.set (p := ⟨g, j * 2 + 1, none⟩) (Hdr.val (ha, m, hcp)) (by show b < g; omega)
              have kk := kk.setNew (p := ⟨g, j * 2 + 1, none⟩) (Hdr.val (ha, m, hcp)) hg
              have OQ := OQ2
              clear OQ2 own
              go_wp2_with fail
              exact ⟨⟨q - 1, _, _, by omega, by first | rfl | rw [hqm], OQ, lk_mono (lk_set LO.out j ⟨cok.out.1, by show (c.2.take m).length ≤ _; rw [List.length_take, ← HN3.out]; omega, fun y hy => cok.out.2.2 y (List.mem_of_mem_take hy)⟩) (by omega) (by omega), T, kk⟩, by simp [intOf]; omega⟩
            refine AllReadyH.cons (o := { dst := some 116, op := Op.call { callee := Callee.value (Operand.func 16), args := #[Operand.tmp 108, Operand.tmp 115], argTypes := #[24, 3] }, type := 3, pos := "tape.go:203", after := #[{ on := 7, ground := Ground.data }, { on := 14, ground := Ground.data }], guard := none }) rfl (fun K hK => ?_) AllReadyH.nil
            · go_simp
              ((with_reducible refine (next_t ((hn3 : Int) + 1) _ T (by omega) (by omega)).mono ?_))
              clear T
              rintro e w5 ⟨m, rfl, m0, m1, T, k2⟩
              obtain ⟨m, rfl⟩ := Int.eq_ofNat_of_zero_le m0
              replace OQ := OQ.nxb hbw k2
              replace own := own.nxb hbw k2
              replace kk := kk.nxb k2
              clear k2
              have hmc : (m : Int) ≤ (hcp : Int) := by omega
              have hml : m ≤ c.2.length := by rw [← HN3.out]; omega
              refine hK.out _ _ (trivial) (fun hHeld => ?_)
              clear hK K
              try simp only [Act.put, List.setIfInBounds_toArray, List.set_cons_zero, List.set_cons_succ]
              refine wpAnyH_ready (rs := [6]) (by kernel_rfl) (by simp) ?_
              refine AllReadyH.cons (o := { dst := some 107, op := Op.load 57 (Operand.tmp 106), type := 57, pos := "tape.go:203", after := #[{ on := 5, ground := Ground.data }], guard := none }) rfl (fun K hK => ?_) AllReadyH.nil
              have cq := CE _ OQ
              go_simp
              clear cq
              refine hK.out _ _ (trivial) (fun hHeld => ?_)
              clear hK K
              try simp only [Act.put, List.setIfInBounds_toArray, List.set_cons_zero, List.set_cons_succ]
              refine wpAnyH_take (i := 16) (oi := { dst := some 117, op := Op.slice 57 (Operand.tmp 107) none (some (Operand.tmp 116)) none, type := 57, pos := "tape.go:203", after := #[{ on := 6, ground := Ground.data }, { on := 15, ground := Ground.data }], guard := none }) (v := ?_) rfl (by kernel_rfl) (by kernel_rfl) (by kernel_rfl) (fun _ _ _ h => h) (Or.inl ⟨by rfl, ?hyr3x16q170⟩) (by assumption) ?restr3x16q170
              case hyr3x16q170 => intro wq hSw; (go_simp); (try with_reducible rfl)
              try simp only [Act.put, List.setIfInBounds_toArray, List.set_cons_zero, List.set_cons_succ]
              refine wpAnyH_take (i := 17) (oi := { dst := some 118, op := Op.indexAddr 28 (Operand.tmp 101) (Operand.tmp 102), type := 0, pos := "tape.go:203", after := #[{ on := 0, ground := Ground.data }, { on := 1, ground := Ground.data }, { on := 0, ground := Ground.phase }, { on := 1, ground := Ground.phase }, { on := 2, ground := Ground.phase }, { on := 3, ground := Ground.phase }, { on := 4, ground := Ground.phase }, { on := 5, ground := Ground.phase }, { on := 6, ground := Ground.phase }, { on := 7, ground := Ground.phase }, { on := 8, ground := Ground.phase }, { on := 9, ground := Ground.phase }, { on := 10, ground := Ground.phase }, { on := 11, ground := Ground.phase }, { on := 12, ground := Ground.phase }, { on := 13, ground := Ground.phase }, { on := 14, ground := Ground.phase }, { on := 15, ground := Ground.phase }, { on := 16, ground := Ground.phase }], guard := none }) (v := ?_) rfl (by kernel_rfl) (by kernel_rfl) (by kernel_rfl) (fun _ _ _ h => h) (Or.inl ⟨by rfl, ?hyr3x17q173⟩) (by assumption) ?restr3x17q173
              case hyr3x17q173 => intro wq hSw; (go_simp); (try with_reducible rfl)
              try simp only [Act.put, List.setIfInBounds_toArray, List.set_cons_zero, List.set_cons_succ]
              refine wpAnyH_take (i := 18) (oi := { dst := some 119, op := Op.fieldAddr 59 (Operand.tmp 118) 1, type := 0, pos := "tape.go:203", after := #[{ on := 17, ground := Ground.data }, { on := 0, ground := Ground.phase }, { on := 1, ground := Ground.phase }, { on := 2, ground := Ground.phase }, { on := 3, ground := Ground.phase }, { on := 4, ground := Ground.phase }, { on := 5, ground := Ground.phase }, { on := 6, ground := Ground.phase }, { on := 7, ground := Ground.phase }, { on := 8, ground := Ground.phase }, { on := 9, ground := Ground.phase }, { on := 10, ground := Ground.phase }, { on := 11, ground := Ground.phase }, { on := 12, ground := Ground.phase }, { on := 13, ground := Ground.phase }, { on := 14, ground := Ground.phase }, { on := 15, ground := Ground.phase }, { on := 16, ground := Ground.phase }], guard := none }) (v := ?_) rfl (by kernel_rfl) (by kernel_rfl) (by kernel_rfl) (fun _ _ _ h => h) (Or.inl ⟨by rfl, ?hyr3x18q176⟩) (by assumption) ?restr3x18q176
              case hyr3x18q176 => intro wq hSw; (go_simp); (try with_reducible rfl)
              try simp only [Act.put, List.setIfInBounds_toArray, List.set_cons_zero, List.set_cons_succ]
              refine wpAnyH_ready (rs := [19]) (by kernel_rfl) (by simp) ?_
              refine AllReadyH.cons (o := { dst := none, op := Op.store 57 (Operand.tmp 119) (Operand.tmp 117), type := 0, pos := "tape.go:203", after := #[{ on := 18, ground := Ground.data }, { on := 16, ground := Ground.data }, { on := 15, ground := Ground.chain }, { on := 0, ground := Ground.phase }, { on := 1, ground := Ground.phase }, { on := 2, ground := Ground.phase }, { on := 3, ground := Ground.phase }, { on := 4, ground := Ground.phase }, { on := 5, ground := Ground.phase }, { on := 6, ground := Ground.phase }, { on := 7, ground := Ground.phase }, { on := 8, ground := Ground.phase }, { on := 9, ground := Ground.phase }, { on := 10, ground := Ground.phase }, { on := 11, ground := Ground.phase }, { on := 12, ground := Ground.phase }, { on := 13, ground := Ground.phase }, { on := 14, ground := Ground.phase }, { on := 15, ground := Ground.phase }, { on := 16, ground := Ground.phase }], guard := none }) rfl (fun K hK => ?_) AllReadyH.nil
              obtain ⟨pc, pf, OQ2⟩ := OwnN.put (p := 1) (fun _ => rfl) (by decide) OQ hqj (hd' := (ha, m, hcp)) (c' := c.2.take m) (own_cut own hml) (Chg.refl _ _) (.inl (own_cut_blk ha hn3 m hcp))
              go_simp
              clear pc pf OQ
              refine hK.out _ _ (trivial) (fun hHeld => ?_)
              clear hK K
              try simp only [Act.put, List.setIfInBounds_toArray, List.set_cons_zero, List.set_cons_succ]
              refine wpAnyH_done (by kernel_rfl) ?_ _
              have T := T.set (p := ⟨g, j * 2 + 1, none⟩) (Hdr.val (ha, m, hcp)) (by show b < g; omega)
              have kk := kk.setNew (p := ⟨g, j * 2 + 1, none⟩) (Hdr.val (ha, m, hcp)) hg
              have OQ := OQ2
              clear OQ2 own
              go_wp2_with fail
              exact ⟨⟨q - 1, _, _, by omega, by first | rfl | rw [hqm], OQ, lk_mono (lk_set LO.out j ⟨cok.out.1, by show (c.2.take m).length ≤ _; rw [List.length_take, ← HN3.out]; omega, fun y hy => cok.out.2.2 y (List.mem_of_mem_take hy)⟩) (by omega) (by omega), T, kk⟩, by simp [intOf]; omega⟩
        by_cases r03 : r = 3
        · subst r03
          clear r00 r01 r02
          obtain ⟨a6, c6, e6, r6, hc6, _, some6⟩ := own.rd (fun _ => rfl)
          obtain ⟨rfl, hn3e, rfl⟩ : ha = a6 ∧ hn3 = c.2.length ∧ hcp = c6 := by simpa [Hdr.val] using e6
          have HN3 := Lib.hid hn3e
          have hcl : hn3 ≤ 17 + (ch - q) := by rw [hn3e]; exact cok.out.2.1
          rw [← hn3e] at hc6
          have jw3 : IntKind.i64.wrap ((hn3 : Int) + 1) = (hn3 : Int) + 1 := IntWalk.i64_in _ (by omega)
          clear hn3e
          clear e6 r6 some6
          have OQ := OQ.nx (Ex.refl w4).drew
          have own := own.nx (Ex.refl w4).drew
          have T : TK w4.drew b := T
          have kk := kk.drew
          have CE : ∀ cur : World, OwnLk w.heap.size cur (.slice (some ⟨g, 0, none⟩) L.length cap3) qs L → cur.cell? ⟨g, j * 2 + 1, none⟩ = some (.slice ha hn3 hcp) := fun cur h => by
            have := (OwnW.set1 (sz := 2) (enc := encP encI) (c := 1) (fun _ => rfl) h.1 hqj (by omega)).1
            exact this
          go_wp2_with fail
          refine wp_region_held_drew (S := fun _ => True) (by kernel_rfl) (trivial) (fun hHeld => ?_)
          refine wpAnyH_take (i := 0) (oi := { dst := some 122, op := Op.move (Operand.tmp 9), type := 28, pos := "tape.go:205", after := #[], guard := none }) (v := ?_) rfl (by kernel_rfl) (by kernel_rfl) (by kernel_rfl) (fun _ _ _ h => h) (Or.inl ⟨by rfl, ?hyr4x0q1⟩) (by assumption) ?restr4x0q1
          case hyr4x0q1 => intro wq hSw; (go_simp); (try with_reducible rfl)
          try simp only [Act.put, List.setIfInBounds_toArray, List.set_cons_zero, List.set_cons_succ]
          refine wpAnyH_take (i := 1) (oi := { dst := some 123, op := Op.move (Operand.tmp 12), type := 3, pos := "tape.go:205", after := #[], guard := none }) (v := ?_) rfl (by kernel_rfl) (by kernel_rfl) (by kernel_rfl) (fun _ _ _ h => h) (Or.inl ⟨by rfl, ?hyr4x1q4⟩) (by assumption) ?restr4x1q4
          case hyr4x1q4 => intro wq hSw; (go_simp); (try with_reducible rfl)
          try simp only [Act.put, List.setIfInBounds_toArray, List.set_cons_zero, List.set_cons_succ]
          refine wpAnyH_take (i := 2) (oi := { dst := some 124, op := Op.move (Operand.tmp 9), type := 28, pos := "tape.go:205", after := #[], guard := none }) (v := ?_) rfl (by kernel_rfl) (by kernel_rfl) (by kernel_rfl) (fun _ _ _ h => h) (Or.inl ⟨by rfl, ?hyr4x2q7⟩) (by assumption) ?restr4x2q7
          case hyr4x2q7 => intro wq hSw; (go_simp); (try with_reducible rfl)
          try simp only [Act.put, List.setIfInBounds_toArray, List.set_cons_zero, List.set_cons_succ]
          refine wpAnyH_take (i := 3) (oi := { dst := some 125, op := Op.move (Operand.tmp 12), type := 3, pos := "tape.go:205", after := #[], guard := none }) (v := ?_) rfl (by kernel_rfl) (by kernel_rfl) (by kernel_rfl) (fun _ _ _ h => h) (Or.inl ⟨by rfl, ?hyr4x3q10⟩) (by assumption) ?restr4x3q10
          case hyr4x3q10 => intro wq hSw; (go_simp); (try with_reducible rfl)
          try simp only [Act.put, List.setIfInBounds_toArray, List.set_cons_zero, List.set_cons_succ]
          refine wpAnyH_take (i := 4) (oi := { dst := some 126, op := Op.indexAddr 28 (Operand.tmp 124) (Operand.tmp 125), type := 0, pos := "tape.go:205", after := #[{ on := 2, ground := Ground.data }, { on := 3, ground := Ground.data }], guard := none }) (v := ?_) rfl (by kernel_rfl) (by kernel_rfl) (by kernel_rfl) (fun _ _ _ h => h) (Or.inl ⟨by rfl, ?hyr4x4q13⟩) (by assumption) ?restr4x4q13
          case hyr4x4q13 => intro wq hSw; (go_simp); (try with_reducible rfl)
          try simp only [Act.put, List.setIfInBounds_toArray, List.set_cons_zero, List.set_cons_succ]
          refine wpAnyH_take (i := 5) (oi := { dst := some 127, op := Op.fieldAddr 59 (Operand.tmp 126) 1, type := 0, pos := "tape.go:205", after := #[{ on := 4, ground := Ground.data }], guard := none }) (v := ?_) rfl (by kernel_rfl) (by kernel_rfl) (by kernel_rfl) (fun _ _ _ h => h) (Or.inl ⟨by rfl, ?hyr4x5q16⟩) (by assumption) ?restr4x5q16
          case hyr4x5q16 => intro wq hSw; (go_simp); (try with_reducible rfl)
          try simp only [Act.put, List.setIfInBounds_toArray, List.set_cons_zero, List.set_cons_succ]
          refine wpAnyH_take (i := 7) (oi := { dst := some 129, op := Op.move (Operand.tmp 0), type := 24, pos := "tape.go:205", after := #[], guard := none }) (v := ?_) rfl (by kernel_rfl) (by kernel_rfl) (by kernel_rfl) (fun _ _ _ h => h) (Or.inl ⟨by rfl, ?hyr4x7q19⟩) (by assumption) ?restr4x7q19
          case hyr4x7q19 => intro wq hSw; (go_simp); (try with_reducible rfl)
          try simp only [Act.put, List.setIfInBounds_toArray, List.set_cons_zero, List.set_cons_succ]
          refine wpAnyH_take (i := 8) (oi := { dst := some 130, op := Op.move (Operand.tmp 1), type := 26, pos := "tape.go:205", after := #[], guard := none }) (v := ?_) rfl (by kernel_rfl) (by kernel_rfl) (by kernel_rfl) (fun _ _ _ h => h) (Or.inl ⟨by rfl, ?hyr4x8q22⟩) (by assumption) ?restr4x8q22
          case hyr4x8q22 => intro wq hSw; (go_simp); (try with_reducible rfl)
          try simp only [Act.put, List.setIfInBounds_toArray, List.set_cons_zero, List.set_cons_succ]
          refine wpAnyH_take (i := 10) (oi := { dst := some 132, op := Op.move (Operand.tmp 0), type := 24, pos := "tape.go:205", after := #[], guard := none }) (v := ?_) rfl (by kernel_rfl) (by kernel_rfl) (by kernel_rfl) (fun _ _ _ h => h) (Or.inl ⟨by rfl, ?hyr4x10q25⟩) (by assumption) ?restr4x10q25
          case hyr4x10q25 => intro wq hSw; (go_simp); (try with_reducible rfl)
          try simp only [Act.put, List.setIfInBounds_toArray, List.set_cons_zero, List.set_cons_succ]
          refine wpAnyH_take (i := 11) (oi := { dst := some 133, op := Op.move (Operand.tmp 1), type := 26, pos := "tape.go:205", after := #[], guard := none }) (v := ?_) rfl (by kernel_rfl) (by kernel_rfl) (by kernel_rfl) (fun _ _ _ h => h) (Or.inl ⟨by rfl, ?hyr4x11q28⟩) (by assumption) ?restr4x11q28
          case hyr4x11q28 => intro wq hSw; (go_simp); (try with_reducible rfl)
          try simp only [Act.put, List.setIfInBounds_toArray, List.set_cons_zero, List.set_cons_succ]
          refine wpAnyH_ready (rs := [6, 9]) (by kernel_rfl) (by simp) ?_
          refine AllReadyH.cons (o := { dst := some 128, op := Op.load 57 (Operand.tmp 127), type := 57, pos := "tape.go:205", after := #[{ on := 5, ground := Ground.data }], guard := none }) rfl (fun K hK => ?_) ?_
          · have cq := CE _ OQ
            go_simp
            clear cq
            refine hK.out _ _ (trivial) (fun hHeld => ?_)
            clear hK K
            try simp only [Act.put, List.setIfInBounds_toArray, List.set_cons_zero, List.set_cons_succ]
            refine wpAnyH_ready (rs := [9]) (by kernel_rfl) (by simp) ?_
            refine AllReadyH.cons (o := { dst := some 131, op := Op.call { callee := Callee.value (Operand.func 21), args := #[Operand.tmp 129, Operand.tmp 130], argTypes := #[24, 26] }, type := 3, pos := "tape.go:205", after := #[{ on := 7, ground := Ground.data }, { on := 8, ground := Ground.data }], guard := none }) rfl (fun K hK => ?_) AllReadyH.nil
            go_simp
            (refine (id_t _ _ _ _ _ T (HS.out.nxb kk) (by omega) HI.out).mono ?_)
            clear T
            rintro e w5 ⟨i2, rfl, I2, T, k2⟩
            replace OQ := OQ.nxb hbw k2
            replace own := own.nxb hbw k2
            replace kk := kk.nxb k2
            clear k2
            refine hK.out _ _ (trivial) (fun hHeld => ?_)
            clear hK K
            try simp only [Act.put, List.setIfInBounds_toArray, List.set_cons_zero, List.set_cons_succ]
            refine wpAnyH_ready (rs := [12]) (by kernel_rfl) (by simp) ?_
            refine AllReadyH.cons (o := { dst := some 134, op := Op.call { callee := Callee.value (Operand.func 21), args := #[Operand.tmp 132, Operand.tmp 133], argTypes := #[24, 26] }, type := 3, pos := "tape.go:205", after := #[{ on := 10, ground := Ground.data }, { on := 11, ground := Ground.data }, { on := 9, ground := Ground.chain }], guard := none }) rfl (fun K hK => ?_) AllReadyH.nil
            go_simp
            (refine (id_t _ _ _ _ _ T (HS.out.nxb kk) (by omega) HI.out).mono ?_)
            clear T
            rintro e w6 ⟨i3, rfl, I3, T, k2⟩
            replace OQ := OQ.nxb hbw k2
            replace own := own.nxb hbw k2
            replace kk := kk.nxb k2
            clear k2
            refine hK.out _ _ (trivial) (fun hHeld => ?_)
            clear hK K
            try simp only [Act.put, List.setIfInBounds_toArray, List.set_cons_zero, List.set_cons_succ]
            refine wpAnyH_take (i := 13) (oi := { dst := some 135, op := Op.build 56 #[(0, Operand.tmp 131), (1, Operand.tmp 134)], type := 56, pos := "tape.go:205", after := #[{ on := 9, ground := Ground.data }, { on := 12, ground := Ground.data }], guard := none }) (v := ?_) rfl (by kernel_rfl) (by kernel_rfl) (by kernel_rfl) (fun _ _ _ h => h) (Or.inl ⟨by rfl, ?hyr4x13q65⟩) (by assumption) ?restr4x13q65
            case hyr4x13q65 => intro wq hSw; (go_simp); (try with_reducible rfl)
            try simp only [Act.put, List.setIfInBounds_toArray, List.set_cons_zero, List.set_cons_succ]
            refine wpAnyH_ready (rs := [14]) (by kernel_rfl) (by simp) ?_
            refine AllReadyH.cons (o := { dst := some 136, op := Op.buildSlice 57 1 #[(0, Operand.tmp 135)], type := 57, pos := "tape.go:205", after := #[{ on := 13, ground := Ground.data }], guard := none }) rfl (fun K hK => ?_) AllReadyH.nil
            have SX : Sl 2 encS (w6.alloc (.cells #[.int .i64 i2, .int .i64 i3] 56)) (some ⟨w6.heap.size, 0, none⟩) 1 [(i2, i3)] := Sl.lit _ rfl rfl (fun _ => rfl) rfl
            go_simp
            have k8 := Ex.new w6 (.cells #[.int .i64 i2, .int .i64 i3] 56)
            replace OQ := OQ.nx k8
            replace own := own.nx k8
            replace kk := kk.nxb (k8.b b)
            replace T := T.nx k8
            clear k8
            refine hK.out _ _ (trivial) (fun hHeld => ?_)
            clear hK K
            try simp only [Act.put, List.setIfInBounds_toArray, List.set_cons_zero, List.set_cons_succ]
            refine wpAnyH_ready (rs := [15]) (by kernel_rfl) (by simp) ?_
            refine AllReadyH.cons (o := { dst := some 137, op := Op.call { callee := Callee.builtin Builtin.append, args := #[Operand.tmp 128, Operand.tmp 136], argTypes := #[57, 57] }, type := 57, pos := "tape.go:205", after := #[{ on := 6, ground := Ground.data }, { on := 14, ground := Ground.data }, { on := 12, ground := Ground.chain }], guard := none }) rfl (fun K hK => ?_) AllReadyH.nil
            rw [if_pos (by rfl)]
            have z6 := kk.size
            refine wp_append_rda (enc := encS) _ (.tmp 128) (.tmp 136) 57 rfl w.heap.size 56 (.agg #[.int .i64 0, .int .i64 0]) 2 16 Tryd.underlying57 Tryd.infoLk rfl (by omega) (by omega) _ c.2 own rfl _ _ 1 1 [_] SX (fun h => by cases h) (fun _ => rfl) (by simp [encS, Value.oneCell']) rfl (by rw [← HN3.out]; omega) (by omega) z6 ?_
            intro v9 w9 own9 ch0 ch1 hat
            obtain ⟨a9, c9, rfl, _, _, _, _⟩ := own9.rd (fun _ => rfl)
            obtain ⟨pc, pf, OQ2⟩ := OwnN.put (p := 1) (fun _ => rfl) (by decide) OQ hqj (hd' := (a9, (c.2 ++ [(i2, i3)]).length, c9)) (c' := c.2 ++ [(i2, i3)]) own9 ch0 (hat.imp id (fun h x hx => by have h2 := h.symm.trans hx; cases h2; exact Nat.le_refl _))
            have hll : (c.2 ++ [(i2, i3)]).length = hn3 + 1 := by rw [HN3.out]; simp
            simp only [Hdr.val, hll] at OQ2
            have kk : Exb b w w9 := Chg.trans kk (ch1.mono (fun x hx => hx.1))
            have T := TP.chg T ch1 (fun x hx => by omega)
            clear own9 ch0 ch1 hat
            refine hK.out _ _ (trivial) (fun hHeld => ?_)
            clear hK K
            try simp only [Act.put, List.setIfInBounds_toArray, List.set_cons_zero, List.set_cons_succ]
            refine wpAnyH_take (i := 16) (oi := { dst := some 138, op := Op.indexAddr 28 (Operand.tmp 122) (Operand.tmp 123), type := 0, pos := "tape.go:205", after := #[{ on := 0, ground := Ground.data }, { on := 1, ground := Ground.data }, { on := 0, ground := Ground.phase }, { on := 1, ground := Ground.phase }, { on := 2, ground := Ground.phase }, { on := 3, ground := Ground.phase }, { on := 4, ground := Ground.phase }, { on := 5, ground := Ground.phase }, { on := 6, ground := Ground.phase }, { on := 7, ground := Ground.phase }, { on := 8, ground := Ground.phase }, { on := 9, ground := Ground.phase }, { on := 10, ground := Ground.phase }, { on := 11, ground := Ground.phase }, { on := 12, ground := Ground.phase }, { on := 13, ground := Ground.phase }, { on := 14, ground := Ground.phase }, { on := 15, ground := Ground.phase }], guard := none }) (v := ?_) rfl (by kernel_rfl) (by kernel_rfl) (by kernel_rfl) (fun _ _ _ h => h) (Or.inl ⟨by rfl, ?hyr4x16q97⟩) (by assumption) ?restr4x16q97
            case hyr4x16q97 => intro wq hSw; (go_simp); (try with_reducible rfl)
            try simp only [Act.put, List.setIfInBounds_toArray, List.set_cons_zero, List.set_cons_succ]
            refine wpAnyH_take (i := 17) (oi := { dst := some 139, op := Op.fieldAddr 59 (Operand.tmp 138) 1, type := 0, pos := "tape.go:205", after := #[{ on := 16, ground := Ground.data }, { on := 0, ground := Ground.phase }, { on := 1, ground := Ground.phase }, { on := 2, ground := Ground.phase }, { on := 3, ground := Ground.phase }, { on := 4, ground := Ground.phase }, { on := 5, ground := Ground.phase }, { on := 6, ground := Ground.phase }, { on := 7, ground := Ground.phase }, { on := 8, ground := Ground.phase }, { on := 9, ground := Ground.phase }, { on := 10, ground := Ground.phase }, { on := 11, ground := Ground.phase }, { on := 12, ground := Ground.phase }, { on := 13, ground := Ground.phase }, { on := 14, ground := Ground.phase }, { on := 15, ground := Ground.phase }], guard := none }) (v := ?_) rfl (by kernel_rfl) (by kernel_rfl) (by kernel_rfl) (fun _ _ _ h => h) (Or.inl ⟨by rfl, ?hyr4x17q100⟩) (by assumption) ?restr4x17q100
            case hyr4x17q100 => intro wq hSw; (go_simp); (try with_reducible rfl)
            try simp only [Act.put, List.setIfInBounds_toArray, List.set_cons_zero, List.set_cons_succ]
            refine wpAnyH_ready (rs := [18]) (by kernel_rfl) (by simp) ?_
            refine AllReadyH.cons (o := { dst := none, op := Op.store 57 (Operand.tmp 139) (Operand.tmp 137), type := 0, pos := "tape.go:205", after := #[{ on := 17, ground := Ground.data }, { on := 15, ground := Ground.data }, { on := 15, ground := Ground.chain }, { on := 0, ground := Ground.phase }, { on := 1, ground := Ground.phase }, { on := 2, ground := Ground.phase }, { on := 3, ground := Ground.phase }, { on := 4, ground := Ground.phase }, { on := 5, ground := Ground.phase }, { on := 6, ground := Ground.phase }, { on := 7, ground := Ground.phase }, { on := 8, ground := Ground.phase }, { on := 9, ground := Ground.phase }, { on := 10, ground := Ground.phase }, { on := 11, ground := Ground.phase }, { on := 12, ground := Ground.phase }, { on := 13, ground := Ground.phase }, { on := 14, ground := Ground.phase }, { on := 15, ground := Ground.phase }], guard := none }) rfl (fun K hK => ?_) AllReadyH.nil
            go_simp
            clear pc pf OQ
            refine hK.out _ _ (trivial) (fun hHeld => ?_)
            clear hK K
            try simp only [Act.put, List.setIfInBounds_toArray, List.set_cons_zero, List.set_cons_succ]
            refine wpAnyH_done (by kernel_rfl) ?_ _
            have T : TK (w9.setCell ⟨g, j * 2 + 1, none⟩ (.slice a9 (hn3 + 1) c9)) b := TK.set T (p := ⟨g, j * 2 + 1, none⟩) _ (by show b < g; omega)
            have kk := kk.setNew (p := ⟨g, j * 2 + 1, none⟩) (.slice a9 (hn3 + 1) c9) hg
            have OQ := OQ2
            clear OQ2 own SX
            go_wp2_with fail
            exact ⟨⟨q - 1, _, _, by omega, by first | rfl | rw [hqm], OQ, lk_mono (lk_set (B2 := 17 + (ch - q) + 1) (lk_mono LO.out (Nat.le_refl _) (by omega)) j ⟨cok.out.1, by show (c.2 ++ [(i2, i3)]).length ≤ _; rw [hll]; omega, fun y hy => by rcases List.mem_append.1 hy with h1 | h1; exact cok.out.2.2 y h1; rw [List.mem_singleton.1 h1]; exact ⟨I2, I3⟩⟩) (by omega) (by omega), T, kk⟩, by simp [intOf]; omega⟩
          refine AllReadyH.cons (o := { dst := some 131, op := Op.call { callee := Callee.value (Operand.func 21), args := #[Operand.tmp 129, Operand.tmp 130], argTypes := #[24, 26] }, type := 3, pos := "tape.go:205", after := #[{ on := 7, ground := Ground.data }, { on := 8, ground := Ground.data }], guard := none }) rfl (fun K hK => ?_) AllReadyH.nil
          · go_simp
            (refine (id_t _ _ _ _ _ T (HS.out.nxb kk) (by omega) HI.out).mono ?_)
            clear T
            rintro e w5 ⟨i2, rfl, I2, T, k2⟩
            replace OQ := OQ.nxb hbw k2
            replace own := own.nxb hbw k2
            replace kk := kk.nxb k2
            clear k2
            refine hK.out _ _ (trivial) (fun hHeld => ?_)
            clear hK K
            try simp only [Act.put, List.setIfInBounds_toArray, List.set_cons_zero, List.set_cons_succ]
            refine wpAnyH_ready (rs := [6, 12]) (by kernel_rfl) (by simp) ?_
            refine AllReadyH.cons (o := { dst := some 128, op := Op.load 57 (Operand.tmp 127), type := 57, pos := "tape.go:205", after := #[{ on := 5, ground := Ground.data }], guard := none }) rfl (fun K hK => ?_) ?_
            · have cq := CE _ OQ
              go_simp
              clear cq
              refine hK.out _ _ (trivial) (fun hHeld => ?_)
              clear hK K
              try simp only [Act.put, List.setIfInBounds_toArray, List.set_cons_zero, List.set_cons_succ]
              refine wpAnyH_ready (rs := [12]) (by kernel_rfl) (by simp) ?_
              refine AllReadyH.cons (o := { dst := some 134, op := Op.call { callee := Callee.value (Operand.func 21), args := #[Operand.tmp 132, Operand.tmp 133], argTypes := #[24, 26] }, type := 3, pos := "tape.go:205", after := #[{ on := 10, ground := Ground.data }, { on := 11, ground := Ground.data }, { on := 9, ground := Ground.chain }], guard := none }) rfl (fun K hK => ?_) AllReadyH.nil
              go_simp
              (refine (id_t _ _ _ _ _ T (HS.out.nxb kk) (by omega) HI.out).mono ?_)
              clear T
              rintro e w6 ⟨i3, rfl, I3, T, k2⟩
              replace OQ := OQ.nxb hbw k2
              replace own := own.nxb hbw k2
              replace kk := kk.nxb k2
              clear k2
              refine hK.out _ _ (trivial) (fun hHeld => ?_)
              clear hK K
              try simp only [Act.put, List.setIfInBounds_toArray, List.set_cons_zero, List.set_cons_succ]
              refine wpAnyH_take (i := 13) (oi := { dst := some 135, op := Op.build 56 #[(0, Operand.tmp 131), (1, Operand.tmp 134)], type := 56, pos := "tape.go:205", after := #[{ on := 9, ground := Ground.data }, { on := 12, ground := Ground.data }], guard := none }) (v := ?_) rfl (by kernel_rfl) (by kernel_rfl) (by kernel_rfl) (fun _ _ _ h => h) (Or.inl ⟨by rfl, ?hyr4x13q145⟩) (by assumption) ?restr4x13q145
              case hyr4x13q145 => intro wq hSw; (go_simp); (try with_reducible rfl)
              try simp only [Act.put, List.setIfInBounds_toArray, List.set_cons_zero, List.set_cons_succ]
              refine wpAnyH_ready (rs := [14]) (by kernel_rfl) (by simp) ?_
              refine AllReadyH.cons (o := { dst := some 136, op := Op.buildSlice 57 1 #[(0, Operand.tmp 135)], type := 57, pos := "tape.go:205", after := #[{ on := 13, ground := Ground.data }], guard := none }) rfl (fun K hK => ?_) AllReadyH.nil
              have SX : Sl 2 encS (w6.alloc (.cells #[.int .i64 i2, .int .i64 i3] 56)) (some ⟨w6.heap.size, 0, none⟩) 1 [(i2, i3)] := Sl.lit _ rfl rfl (fun _ => rfl) rfl
              go_simp
              have k8 := Ex.new w6 (.cells #[.int .i64 i2, .int .i64 i3] 56)
              replace OQ := OQ.nx k8
              replace own := own.nx k8
              replace kk := kk.nxb (k8.b b)
              replace T := T.nx k8
              clear k8
              refine hK.out _ _ (trivial) (fun hHeld => ?_)
              clear hK K
              try simp only [Act.put, List.setIfInBounds_toArray, List.set_cons_zero, List.set_cons_succ]
              refine wpAnyH_ready (rs := [15]) (by kernel_rfl) (by simp) ?_
              refine AllReadyH.cons (o := { dst := some 137, op := Op.call { callee := Callee.builtin Builtin.append, args := #[Operand.tmp 128, Operand.tmp 136], argTypes := #[57, 57] }, type := 57, pos := "tape.go:205", after := #[{ on := 6, ground := Ground.data }, { on := 14, ground := Ground.data }, { on := 12, ground := Ground.chain }], guard := none }) rfl (fun K hK => ?_) AllReadyH.nil
              rw [if_pos (by rfl)]
              have z6 := kk.size
              refine wp_append_rda (enc := encS) _ (.tmp 128) (.tmp 136) 57 rfl w.heap.size 56 (.agg #[.int .i64 0, .int .i64 0]) 2 16 Tryd.underlying57 Tryd.infoLk rfl (by omega) (by omega) _ c.2 own rfl _ _ 1 1 [_] SX (fun h => by cases h) (fun _ => rfl) (by simp [encS, Value.oneCell']) rfl (by rw [← HN3.out]; omega) (by omega) z6 ?_
              intro v9 w9 own9 ch0 ch1 hat
              obtain ⟨a9, c9, rfl, _, _, _, _⟩ := own9.rd (fun _ => rfl)
              obtain ⟨pc, pf, OQ2⟩ := OwnN.put (p := 1) (fun _ => rfl) (by decide) OQ hqj (hd' := (a9, (c.2 ++ [(i2, i3)]).length, c9)) (c' := c.2 ++ [(i2, i3)]) own9 ch0 (hat.imp id (fun h x hx => by have h2 := h.symm.trans hx; cases h2; exact Nat.le_refl _))
              have hll : (c.2 ++ [(i2, i3)]).length = hn3 + 1 := by rw [HN3.out]; simp
              simp only [Hdr.val, hll] at OQ2
              have kk : Exb b w w9 := Chg.trans kk (ch1.mono (fun x hx => hx.1))
              have T := TP.chg T ch1 (fun x hx => by omega)
              clear own9 ch0 ch1 hat
              refine hK.out _ _ (trivial) (fun hHeld => ?_)
              clear hK K
              try simp only [Act.put, List.setIfInBounds_toArray, List.set_cons_zero, List.set_cons_succ]
              refine wpAnyH_take (i := 16) (oi := { dst := some 138, op := Op.indexAddr 28 (Operand.tmp 122) (Operand.tmp 123), type := 0, pos := "tape.go:205", after := #[{ on := 0, ground := Ground.data }, { on := 1, ground := Ground.data }, { on := 0, ground := Ground.phase }, { on := 1, ground := Ground.phase }, { on := 2, ground := Ground.phase }, { on := 3, ground := Ground.phase }, { on := 4, ground := Ground.phase }, { on := 5, ground := Ground.phase }, { on := 6, ground := Ground.phase }, { on := 7, ground := Ground.phase }, { on := 8, ground := Ground.phase }, { on := 9, ground := Ground.phase }, { on := 10, ground := Ground.phase }, { on := 11, ground := Ground.phase }, { on := 12, ground := Ground.phase }, { on := 13, ground := Ground.phase }, { on := 14, ground := Ground.phase }, { on := 15, ground := Ground.phase }], guard := none }) (v := ?_) rfl (by kernel_rfl) (by kernel_rfl) (by kernel_rfl) (fun _ _ _ h => h) (Or.inl ⟨by rfl, ?hyr4x16q177⟩) (by assumption) ?restr4x16q177
              case hyr4x16q177 => intro wq hSw; (go_simp); (try with_reducible rfl)
              try simp only [Act.put, List.setIfInBounds_toArray, List.set_cons_zero, List.set_cons_succ]
              refine wpAnyH_take (i := 17) (oi := { dst := some 139, op := Op.fieldAddr 59 (Operand.tmp 138) 1, type := 0, pos := "tape.go:205", after := #[{ on := 16, ground := Ground.data }, { on := 0, ground := Ground.phase }, { on := 1, ground := Ground.phase }, { on := 2, ground := Ground.phase }, { on := 3, ground := Ground.phase }, { on := 4, ground := Ground.phase }, { on := 5, ground := Ground.phase }, { on := 6, ground := Ground.phase }, { on := 7, ground := Ground.phase }, { on := 8, ground := Ground.phase }, { on := 9, ground := Ground.phase }, { on := 10, ground := Ground.phase }, { on := 11, ground := Ground.phase }, { on := 12, ground := Ground.phase }, { on := 13, ground := Ground.phase }, { on := 14, ground := Ground.phase }, { on := 15, ground := Ground.phase }], guard := none }) (v := ?_) rfl (by kernel_rfl) (by kernel_rfl) (by kernel_rfl) (fun _ _ _ h => h) (Or.inl ⟨by rfl, ?hyr4x17q180⟩) (by assumption) ?restr4x17q180
              case hyr4x17q180 => intro wq hSw; (go_simp); (try with_reducible rfl)
              try simp only [Act.put, List.setIfInBounds_toArray, List.set_cons_zero, List.set_cons_succ]
              refine wpAnyH_ready (rs := [18]) (by kernel_rfl) (by simp) ?_
              refine AllReadyH.cons (o := { dst := none, op := Op.store 57 (Operand.tmp 139) (Operand.tmp 137), type := 0, pos := "tape.go:205", after := #[{ on := 17, ground := Ground.data }, { on := 15, ground := Ground.data }, { on := 15, ground := Ground.chain }, { on := 0, ground := Ground.phase }, { on := 1, ground := Ground.phase }, { on := 2, ground := Ground.phase }, { on := 3, ground := Ground.phase }, { on := 4, ground := Ground.phase }, { on := 5, ground := Ground.phase }, { on := 6, ground := Ground.phase }, { on := 7, ground := Ground.phase }, { on := 8, ground := Ground.phase }, { on := 9, ground := Ground.phase }, { on := 10, ground := Ground.phase }, { on := 11, ground := Ground.phase }, { on := 12, ground := Ground.phase }, { on := 13, ground := Ground.phase }, { on := 14, ground := Ground.phase }, { on := 15, ground := Ground.phase }], guard := none }) rfl (fun K hK => ?_) AllReadyH.nil
              go_simp
              clear pc pf OQ
              refine hK.out _ _ (trivial) (fun hHeld => ?_)
              clear hK K
              try simp only [Act.put, List.setIfInBounds_toArray, List.set_cons_zero, List.set_cons_succ]
              refine wpAnyH_done (by kernel_rfl) ?_ _
              have T : TK (w9.setCell ⟨g, j * 2 + 1, none⟩ (.slice a9 (hn3 + 1) c9)) b := TK.set T (p := ⟨g, j * 2 + 1, none⟩) _ (by show b < g; omega)
              have kk := kk.setNew (p := ⟨g, j * 2 + 1, none⟩) (.slice a9 (hn3 + 1) c9) hg
              have OQ := OQ2
              clear OQ2 own SX
              go_wp2_with fail
              exact ⟨⟨q - 1, _, _, by omega, by first | rfl | rw [hqm], OQ, lk_mono (lk_set (B2 := 17 + (ch - q) + 1) (lk_mono LO.out (Nat.le_refl _) (by omega)) j ⟨cok.out.1, by show (c.2 ++ [(i2, i3)]).length ≤ _; rw [hll]; omega, fun y hy => by rcases List.mem_append.1 hy with h1 | h1; exact cok.out.2.2 y h1; rw [List.mem_singleton.1 h1]; exact ⟨I2, I3⟩⟩) (by omega) (by omega), T, kk⟩, by simp [intOf]; omega⟩
            refine AllReadyH.cons (o := { dst := some 134, op := Op.call { callee := Callee.value (Operand.func 21), args := #[Operand.tmp 132, Operand.tmp 133], argTypes := #[24, 26] }, type := 3, pos := "tape.go:205", after := #[{ on := 10, ground := Ground.data }, { on := 11, ground := Ground.data }, { on := 9, ground := Ground.chain }], guard := none }) rfl (fun K hK => ?_) AllReadyH.nil
            · go_simp
              (refine (id_t _ _ _ _ _ T (HS.out.nxb kk) (by omega) HI.out).mono ?_)
              clear T
              rintro e w6 ⟨i3, rfl, I3, T, k2⟩
              replace OQ := OQ.nxb hbw k2
              replace own := own.nxb hbw k2
              replace kk := kk.nxb k2
              clear k2
              refine hK.out _ _ (trivial) (fun hHeld => ?_)
              clear hK K
              try simp only [Act.put, List.setIfInBounds_toArray, List.set_cons_zero, List.set_cons_succ]
              refine wpAnyH_take (i := 13) (oi := { dst := some 135, op := Op.build 56 #[(0, Operand.tmp 131), (1, Operand.tmp 134)], type := 56, pos := "tape.go:205", after := #[{ on := 9, ground := Ground.data }, { on := 12, ground := Ground.data }], guard := none }) (v := ?_) rfl (by kernel_rfl) (by kernel_rfl) (by kernel_rfl) (fun _ _ _ h => h) (Or.inl ⟨by rfl, ?hyr4x13q204⟩) (by assumption) ?restr4x13q204
              case hyr4x13q204 => intro wq hSw; (go_simp); (try with_reducible rfl)
              try simp only [Act.put, List.setIfInBounds_toArray, List.set_cons_zero, List.set_cons_succ]
              refine wpAnyH_ready (rs := [6, 14]) (by kernel_rfl) (by simp) ?_
              refine AllReadyH.cons (o := { dst := some 128, op := Op.load 57 (Operand.tmp 127), type := 57, pos := "tape.go:205", after := #[{ on := 5, ground := Ground.data }], guard := none }) rfl (fun K hK => ?_) ?_
              · have cq := CE _ OQ
                go_simp
                clear cq
                refine hK.out _ _ (trivial) (fun hHeld => ?_)
                clear hK K
                try simp only [Act.put, List.setIfInBounds_toArray, List.set_cons_zero, List.set_cons_succ]
                refine wpAnyH_ready (rs := [14]) (by kernel_rfl) (by simp) ?_
                refine AllReadyH.cons (o := { dst := some 136, op := Op.buildSlice 57 1 #[(0, Operand.tmp 135)], type := 57, pos := "tape.go:205", after := #[{ on := 13, ground := Ground.data }], guard := none }) rfl (fun K hK => ?_) AllReadyH.nil
                have SX : Sl 2 encS (w6.alloc (.cells #[.int .i64 i2, .int .i64 i3] 56)) (some ⟨w6.heap.size, 0, none⟩) 1 [(i2, i3)] := Sl.lit _ rfl rfl (fun _ => rfl) rfl
                go_simp
                have k8 := Ex.new w6 (.cells #[.int .i64 i2, .int .i64 i3] 56)
                replace OQ := OQ.nx k8
                replace own := own.nx k8
                replace kk := kk.nxb (k8.b b)
                replace T := T.nx k8
                clear k8
                refine hK.out _ _ (trivial) (fun hHeld => ?_)
                clear hK K
                try simp only [Act.put, List.setIfInBounds_toArray, List.set_cons_zero, List.set_cons_succ]
                refine wpAnyH_ready (rs := [15]) (by kernel_rfl) (by simp) ?_
                refine AllReadyH.cons (o := { dst := some 137, op := Op.call { callee := Callee.builtin Builtin.append, args := #[Operand.tmp 128, Operand.tmp 136], argTypes := #[57, 57] }, type := 57, pos := "tape.go:205", after := #[{ on := 6, ground := Ground.data }, { on := 14, ground := Ground.data }, { on := 12, ground := Ground.chain }], guard := none }) rfl (fun K hK => ?_) AllReadyH.nil
                rw [if_pos (by rfl)]
                have z6 := kk.size
                refine wp_append_rda (enc := encS) _ (.tmp 128) (.tmp 136) 57 rfl w.heap.size 56 (.agg #[.int .i64 0, .int .i64 0]) 2 16 Tryd.underlying57 Tryd.infoLk rfl (by omega) (by omega) _ c.2 own rfl _ _ 1 1 [_] SX (fun h => by cases h) (fun _ => rfl) (by simp [encS, Value.oneCell']) rfl (by rw [← HN3.out]; omega) (by omega) z6 ?_
                intro v9 w9 own9 ch0 ch1 hat
                obtain ⟨a9, c9, rfl, _, _, _, _⟩ := own9.rd (fun _ => rfl)
                obtain ⟨pc, pf, OQ2⟩ := OwnN.put (p := 1) (fun _ => rfl) (by decide) OQ hqj (hd' := (a9, (c.2 ++ [(i2, i3)]).length, c9)) (c' := c.2 ++ [(i2, i3)]) own9 ch0 (hat.imp id (fun h x hx => by have h2 := h.symm.trans hx; cases h2; exact Nat.le_refl _))
                have hll : (c.2 ++ [(i2, i3)]).length = hn3 + 1 := by rw [HN3.out]; simp
                simp only [Hdr.val, hll] at OQ2
                have kk : Exb b w w9 := Chg.trans kk (ch1.mono (fun x hx => hx.1))
                have T := TP.chg T ch1 (fun x hx => by omega)
                clear own9 ch0 ch1 hat
                refine hK.out _ _ (trivial) (fun hHeld => ?_)
                clear hK K
                try simp only [Act.put, List.setIfInBounds_toArray, List.set_cons_zero, List.set_cons_succ]
                refine wpAnyH_take (i := 16) (oi := { dst := some 138, op := Op.indexAddr 28 (Operand.tmp 122) (Operand.tmp 123), type := 0, pos := "tape.go:205", after := #[{ on := 0, ground := Ground.data }, { on := 1, ground := Ground.data }, { on := 0, ground := Ground.phase }, { on := 1, ground := Ground.phase }, { on := 2, ground := Ground.phase }, { on := 3, ground := Ground.phase }, { on := 4, ground := Ground.phase }, { on := 5, ground := Ground.phase }, { on := 6, ground := Ground.phase }, { on := 7, ground := Ground.phase }, { on := 8, ground := Ground.phase }, { on := 9, ground := Ground.phase }, { on := 10, ground := Ground.phase }, { on := 11, ground := Ground.phase }, { on := 12, ground := Ground.phase }, { on := 13, ground := Ground.phase }, { on := 14, ground := Ground.phase }, { on := 15, ground := Ground.phase }], guard := none }) (v := ?_) rfl (by kernel_rfl) (by kernel_rfl) (by kernel_rfl) (fun _ _ _ h => h) (Or.inl ⟨by rfl, ?hyr4x16q244⟩) (by assumption) ?restr4x16q244
                case hyr4x16q244 => intro wq hSw; (go_simp); (try with_reducible rfl)
                try simp only [Act.put, List.setIfInBounds_toArray, List.set_cons_zero, List.set_cons_succ]
                refine wpAnyH_take (i := 17) (oi := { dst := some 139, op := Op.fieldAddr 59 (Operand.tmp 138) 1, type := 0, pos := "tape.go:205", after := #[{ on := 16, ground := Ground.data }, { on := 0, ground := Ground.phase }, { on := 1, ground := Ground.phase }, { on := 2, ground := Ground.phase }, { on := 3, ground := Ground.phase }, { on := 4, ground := Ground.phase }, { on := 5, ground := Ground.phase }, { on := 6, ground := Ground.phase }, { on := 7, ground := Ground.phase }, { on := 8, ground := Ground.phase }, { on := 9, ground := Ground.phase }, { on := 10, ground := Ground.phase }, { on := 11, ground := Ground.phase }, { on := 12, ground := Ground.phase }, { on := 13, ground := Ground.phase }, { on := 14, ground := Ground.phase }, { on := 15, ground := Ground.phase }], guard := none }) (v := ?_) rfl (by kernel_rfl) (by kernel_rfl) (by kernel_rfl) (fun _ _ _ h => h) (Or.inl ⟨by rfl, ?hyr4x17q247⟩) (by assumption) ?restr4x17q247
                case hyr4x17q247 => intro wq hSw; (go_simp); (try with_reducible rfl)
                try simp only [Act.put, List.setIfInBounds_toArray, List.set_cons_zero, List.set_cons_succ]
                refine wpAnyH_ready (rs := [18]) (by kernel_rfl) (by simp) ?_
                refine AllReadyH.cons (o := { dst := none, op := Op.store 57 (Operand.tmp 139) (Operand.tmp 137), type := 0, pos := "tape.go:205", after := #[{ on := 17, ground := Ground.data }, { on := 15, ground := Ground.data }, { on := 15, ground := Ground.chain }, { on := 0, ground := Ground.phase }, { on := 1, ground := Ground.phase }, { on := 2, ground := Ground.phase }, { on := 3, ground := Ground.phase }, { on := 4, ground := Ground.phase }, { on := 5, ground := Ground.phase }, { on := 6, ground := Ground.phase }, { on := 7, ground := Ground.phase }, { on := 8, ground := Ground.phase }, { on := 9, ground := Ground.phase }, { on := 10, ground := Ground.phase }, { on := 11, ground := Ground.phase }, { on := 12, ground := Ground.phase }, { on := 13, ground := Ground.phase }, { on := 14, ground := Ground.phase }, { on := 15, ground := Ground.phase }], guard := none }) rfl (fun K hK => ?_) AllReadyH.nil
                go_simp
                clear pc pf OQ
                refine hK.out _ _ (trivial) (fun hHeld => ?_)
                clear hK K
                try simp only [Act.put, List.setIfInBounds_toArray, List.set_cons_zero, List.set_cons_succ]
                refine wpAnyH_done (by kernel_rfl) ?_ _
                have T : TK (w9.setCell ⟨g, j * 2 + 1, none⟩ (.slice a9 (hn3 + 1) c9)) b := TK.set T (p := ⟨g, j * 2 + 1, none⟩) _ (by show b < g; omega)
                have kk := kk.setNew (p := ⟨g, j * 2 + 1, none⟩) (.slice a9 (hn3 + 1) c9) hg
                have OQ := OQ2
                clear OQ2 own SX
                go_wp2_with fail
                exact ⟨⟨q - 1, _, _, by omega, by first | rfl | rw [hqm], OQ, lk_mono (lk_set (B2 := 17 + (ch - q) + 1) (lk_mono LO.out (Nat.le_refl _) (by omega)) j ⟨cok.out.1, by show (c.2 ++ [(i2, i3)]).length ≤ _; rw [hll]; omega, fun y hy => by rcases List.mem_append.1 hy with h1 | h1; exact cok.out.2.2 y h1; rw [List.mem_singleton.1 h1]; exact ⟨I2, I3⟩⟩) (by omega) (by omega), T, kk⟩, by simp [intOf]; omega⟩
              refine AllReadyH.cons (o := { dst := some 136, op := Op.buildSlice 57 1 #[(0, Operand.tmp 135)], type := 57, pos := "tape.go:205", after := #[{ on := 13, ground := Ground.data }], guard := none }) rfl (fun K hK => ?_) AllReadyH.nil
              · have SX : Sl 2 encS (w6.alloc (.cells #[.int .i64 i2, .int .i64 i3] 56)) (some ⟨w6.heap.size, 0, none⟩) 1 [(i2, i3)] := Sl.lit _ rfl rfl (fun _ => rfl) rfl
                go_simp
                have k8 := Ex.new w6 (.cells #[.int .i64 i2, .int .i64 i3] 56)
                replace OQ := OQ.nx k8
                replace own := own.nx k8
                replace kk := kk.nxb (k8.b b)
                replace T := T.nx k8
                clear k8
                refine hK.out _ _ (trivial) (fun hHeld => ?_)
                clear hK K
                try simp only [Act.put, List.setIfInBounds_toArray, List.set_cons_zero, List.set_cons_succ]
                refine wpAnyH_ready (rs := [6]) (by kernel_rfl) (by simp) ?_
                refine AllReadyH.cons (o := { dst := some 128, op := Op.load 57 (Operand.tmp 127), type := 57, pos := "tape.go:205", after := #[{ on := 5, ground := Ground.data }], guard := none }) rfl (fun K hK => ?_) AllReadyH.nil
                have cq := CE _ OQ
                go_simp
                clear cq
                refine hK.out _ _ (trivial) (fun hHeld => ?_)
                clear hK K
                try simp only [Act.put, List.setIfInBounds_toArray, List.set_cons_zero, List.set_cons_succ]
                refine wpAnyH_ready (rs := [15]) (by kernel_rfl) (by simp) ?_
                refine AllReadyH.cons (o := { dst := some 137, op := Op.call { callee := Callee.builtin Builtin.append, args := #[Operand.tmp 128, Operand.tmp 136], argTypes := #[57, 57] }, type := 57, pos := "tape.go:205", after := #[{ on := 6, ground := Ground.data }, { on := 14, ground := Ground.data }, { on := 12, ground := Ground.chain }], guard := none }) rfl (fun K hK => ?_) AllReadyH.nil
                rw [if_pos (by rfl)]
                have z6 := kk.size
                refine wp_append_rda (enc := encS) _ (.tmp 128) (.tmp 136) 57 rfl w.heap.size 56 (.agg #[.int .i64 0, .int .i64 0]) 2 16 Tryd.underlying57 Tryd.infoLk rfl (by omega) (by omega) _ c.2 own rfl _ _ 1 1 [_] SX (fun h => by cases h) (fun _ => rfl) (by simp [encS, Value.oneCell']) rfl (by rw [← HN3.out]; omega) (by omega) z6 ?_
                intro v9 w9 own9 ch0 ch1 hat
                obtain ⟨a9, c9, rfl, _, _, _, _⟩ := own9.rd (fun _ => rfl)
                obtain ⟨pc, pf, OQ2⟩ := OwnN.put (p := 1) (fun _ => rfl) (by decide) OQ hqj (hd' := (a9, (c.2 ++ [(i2, i3)]).length, c9)) (c' := c.2 ++ [(i2, i3)]) own9 ch0 (hat.imp id (fun h x hx => by have h2 := h.symm.trans hx; cases h2; exact Nat.le_refl _))
                have hll : (c.2 ++ [(i2, i3)]).length = hn3 + 1 := by rw [HN3.out]; simp
                simp only [Hdr.val, hll] at OQ2
                have kk : Exb b w w9 := Chg.trans kk (ch1.mono (fun x hx => hx.1))
                have T := TP.chg T ch1 (fun x hx => by omega)
                clear own9 ch0 ch1 hat
                refine hK.out _ _ (trivial) (fun hHeld => ?_)
                clear hK K
                try simp only [Act.put, List.setIfInBounds_toArray, List.set_cons_zero, List.set_cons_succ]
                refine wpAnyH_take (i := 16) (oi := { dst := some 138, op := Op.indexAddr 28 (Operand.tmp 122) (Operand.tmp 123), type := 0, pos := "tape.go:205", after := #[{ on := 0, ground := Ground.data }, { on := 1, ground := Ground.data }, { on := 0, ground := Ground.phase }, { on := 1, ground := Ground.phase }, { on := 2, ground := Ground.phase }, { on := 3, ground := Ground.phase }, { on := 4, ground := Ground.phase }, { on := 5, ground := Ground.phase }, { on := 6, ground := Ground.phase }, { on := 7, ground := Ground.phase }, { on := 8, ground := Ground.phase }, { on := 9, ground := Ground.phase }, { on := 10, ground := Ground.phase }, { on := 11, ground := Ground.phase }, { on := 12, ground := Ground.phase }, { on := 13, ground := Ground.phase }, { on := 14, ground := Ground.phase }, { on := 15, ground := Ground.phase }], guard := none }) (v := ?_) rfl (by kernel_rfl) (by kernel_rfl) (by kernel_rfl) (fun _ _ _ h => h) (Or.inl ⟨by rfl, ?hyr4x16q295⟩) (by assumption) ?restr4x16q295
                case hyr4x16q295 => intro wq hSw; (go_simp); (try with_reducible rfl)
                try simp only [Act.put, List.setIfInBounds_toArray, List.set_cons_zero, List.set_cons_succ]
                refine wpAnyH_take (i := 17) (oi := { dst := some 139, op := Op.fieldAddr 59 (Operand.tmp 138) 1, type := 0, pos := "tape.go:205", after := #[{ on := 16, ground := Ground.data }, { on := 0, ground := Ground.phase }, { on := 1, ground := Ground.phase }, { on := 2, ground := Ground.phase }, { on := 3, ground := Ground.phase }, { on := 4, ground := Ground.phase }, { on := 5, ground := Ground.phase }, { on := 6, ground := Ground.phase }, { on := 7, ground := Ground.phase }, { on := 8, ground := Ground.phase }, { on := 9, ground := Ground.phase }, { on := 10, ground := Ground.phase }, { on := 11, ground := Ground.phase }, { on := 12, ground := Ground.phase }, { on := 13, ground := Ground.phase }, { on := 14, ground := Ground.phase }, { on := 15, ground := Ground.phase }], guard := none }) (v := ?_) rfl (by kernel_rfl) (by kernel_rfl) (by kernel_rfl) (fun _ _ _ h => h) (Or.inl ⟨by rfl, ?hyr4x17q298⟩) (by assumption) ?restr4x17q298
                case hyr4x17q298 => intro wq hSw; (go_simp); (try with_reducible rfl)
                try simp only [Act.put, List.setIfInBounds_toArray, List.set_cons_zero, List.set_cons_succ]
                refine wpAnyH_ready (rs := [18]) (by kernel_rfl) (by simp) ?_
                refine AllReadyH.cons (o := { dst := none, op := Op.store 57 (Operand.tmp 139) (Operand.tmp 137), type := 0, pos := "tape.go:205", after := #[{ on := 17, ground := Ground.data }, { on := 15, ground := Ground.data }, { on := 15, ground := Ground.chain }, { on := 0, ground := Ground.phase }, { on := 1, ground := Ground.phase }, { on := 2, ground := Ground.phase }, { on := 3, ground := Ground.phase }, { on := 4, ground := Ground.phase }, { on := 5, ground := Ground.phase }, { on := 6, ground := Ground.phase }, { on := 7, ground := Ground.phase }, { on := 8, ground := Ground.phase }, { on := 9, ground := Ground.phase }, { on := 10, ground := Ground.phase }, { on := 11, ground := Ground.phase }, { on := 12, ground := Ground.phase }, { on := 13, ground := Ground.phase }, { on := 14, ground := Ground.phase }, { on := 15, ground := Ground.phase }], guard := none }) rfl (fun K hK => ?_) AllReadyH.nil
                go_simp
                clear pc pf OQ
                refine hK.out _ _ (trivial) (fun hHeld => ?_)
                clear hK K
                try simp only [Act.put, List.setIfInBounds_toArray, List.set_cons_zero, List.set_cons_succ]
                refine wpAnyH_done (by kernel_rfl) ?_ _
                have T : TK (w9.setCell ⟨g, j * 2 + 1, none⟩ (.slice a9 (hn3 + 1) c9)) b := TK.set T (p := ⟨g, j * 2 + 1, none⟩) _ (by show b < g; omega)
                have kk := kk.setNew (p := ⟨g, j * 2 + 1, none⟩) (.slice a9 (hn3 + 1) c9) hg
                have OQ := OQ2
                clear OQ2 own SX
                go_wp2_with fail
                exact ⟨⟨q - 1, _, _, by omega, by first | rfl | rw [hqm], OQ, lk_mono (lk_set (B2 := 17 + (ch - q) + 1) (lk_mono LO.out (Nat.le_refl _) (by omega)) j ⟨cok.out.1, by show (c.2 ++ [(i2, i3)]).length ≤ _; rw [hll]; omega, fun y hy => by rcases List.mem_append.1 hy with h1 | h1; exact cok.out.2.2 y h1; rw [List.mem_singleton.1 h1]; exact ⟨I2, I3⟩⟩) (by omega) (by omega), T, kk⟩, by simp [intOf]; omega⟩
        · have d0 : (r == 0) = false := by simpa using r00
          have d1 : (r == 1) = false := by simpa using r01
          have d2 : (r == 2) = false := by simpa using r02
          have d3 : (r == 3) = false := by simpa using r03
          clear r00 r01 r02 r03 r0 r1
          obtain ⟨a6, c6, e6, r6, hc6, _, some6⟩ := own.rd (fun _ => rfl)
          obtain ⟨rfl, hn3e, rfl⟩ : ha = a6 ∧ hn3 = c.2.length ∧ hcp = c6 := by simpa [Hdr.val] using e6
          have HN3 := Lib.hid hn3e
          have hcl : hn3 ≤ 17 + (ch - q) := by rw [hn3e]; exact cok.out.2.1
          rw [← hn3e] at hc6
          have jw3 : IntKind.i64.wrap ((hn3 : Int) + 1) = (hn3 : Int) + 1 := IntWalk.i64_in _ (by omega)
          clear hn3e
          have SOME6 := Lib.hid some6
          clear e6 r6 some6 jw3
          have CE : ∀ cur : World, OwnLk w.heap.size cur (.slice (some ⟨g, 0, none⟩) L.length cap3) qs L → cur.cell? ⟨g, j * 2 + 1, none⟩ = some (.slice ha hn3 hcp) := fun cur h => by
            have := (OwnW.set1 (sz := 2) (enc := encP encI) (c := 1) (fun _ => rfl) h.1 hqj (by omega)).1
            exact this
          have cq := CE _ OQ
          by_cases hn0 : hn3 = 0
          · have dn : ¬ (0 : Int) < (hn3 : Int) := by omega
            have HN0 := Lib.hid hn0
            clear own hqj hn0
            go_wp2_with fail
            exact ⟨⟨q - 1, qs, L, by omega, by first | rfl | rw [hqm], OQ, lk_mono LO.out (by omega) (by omega), T, kk⟩, by simp [intOf]; omega⟩
          · have dn : (0 : Int) < (hn3 : Int) := by omega
            obtain ⟨gi, rfl, hgi⟩ := SOME6.out (fun h0 => hn0 (by rw [HN3.out, h0]; rfl))
            clear hn0
            go_wp2_with fail
            clear cq
            replace OQ := OQ.nx (Ex.refl w4).drew
            replace own := own.nx (Ex.refl w4).drew
            replace T : TK w4.drew b := T
            replace kk := kk.drew
            refine wp_region_held_drew (S := fun _ => True) (by kernel_rfl) (trivial) (fun hHeld => ?_)
            refine wpAnyH_take (i := 0) (oi := { dst := some 48, op := Op.move (Operand.tmp 9), type := 28, pos := "tape.go:208", after := #[], guard := none }) (v := ?_) rfl (by kernel_rfl) (by kernel_rfl) (by kernel_rfl) (fun _ _ _ h => h) (Or.inl ⟨by rfl, ?hyr5x0q1⟩) (by assumption) ?restr5x0q1
            case hyr5x0q1 => intro wq hSw; (go_simp); (try with_reducible rfl)
            try simp only [Act.put, List.setIfInBounds_toArray, List.set_cons_zero, List.set_cons_succ]
            refine wpAnyH_take (i := 1) (oi := { dst := some 49, op := Op.move (Operand.tmp 12), type := 3, pos := "tape.go:208", after := #[], guard := none }) (v := ?_) rfl (by kernel_rfl) (by kernel_rfl) (by kernel_rfl) (fun _ _ _ h => h) (Or.inl ⟨by rfl, ?hyr5x1q4⟩) (by assumption) ?restr5x1q4
            case hyr5x1q4 => intro wq hSw; (go_simp); (try with_reducible rfl)
            try simp only [Act.put, List.setIfInBounds_toArray, List.set_cons_zero, List.set_cons_succ]
            refine wpAnyH_take (i := 2) (oi := { dst := some 50, op := Op.indexAddr 28 (Operand.tmp 48) (Operand.tmp 49), type := 0, pos := "tape.go:208", after := #[{ on := 0, ground := Ground.data }, { on := 1, ground := Ground.data }], guard := none }) (v := ?_) rfl (by kernel_rfl) (by kernel_rfl) (by kernel_rfl) (fun _ _ _ h => h) (Or.inl ⟨by rfl, ?hyr5x2q7⟩) (by assumption) ?restr5x2q7
            case hyr5x2q7 => intro wq hSw; (go_simp); (try with_reducible rfl)
            try simp only [Act.put, List.setIfInBounds_toArray, List.set_cons_zero, List.set_cons_succ]
            refine wpAnyH_take (i := 3) (oi := { dst := some 51, op := Op.fieldAddr 59 (Operand.tmp 50) 1, type := 0, pos := "tape.go:208", after := #[{ on := 2, ground := Ground.data }], guard := none }) (v := ?_) rfl (by kernel_rfl) (by kernel_rfl) (by kernel_rfl) (fun _ _ _ h => h) (Or.inl ⟨by rfl, ?hyr5x3q10⟩) (by assumption) ?restr5x3q10
            case hyr5x3q10 => intro wq hSw; (go_simp); (try with_reducible rfl)
            try simp only [Act.put, List.setIfInBounds_toArray, List.set_cons_zero, List.set_cons_succ]
            refine wpAnyH_take (i := 5) (oi := { dst := some 53, op := Op.move (Operand.tmp 0), type := 24, pos := "tape.go:208", after := #[], guard := none }) (v := ?_) rfl (by kernel_rfl) (by kernel_rfl) (by kernel_rfl) (fun _ _ _ h => h) (Or.inl ⟨by rfl, ?hyr5x5q13⟩) (by assumption) ?restr5x5q13
            case hyr5x5q13 => intro wq hSw; (go_simp); (try with_reducible rfl)
            try simp only [Act.put, List.setIfInBounds_toArray, List.set_cons_zero, List.set_cons_succ]
            refine wpAnyH_take (i := 6) (oi := { dst := some 54, op := Op.move (Operand.tmp 13), type := 3, pos := "tape.go:208", after := #[], guard := none }) (v := ?_) rfl (by kernel_rfl) (by kernel_rfl) (by kernel_rfl) (fun _ _ _ h => h) (Or.inl ⟨by rfl, ?hyr5x6q16⟩) (by assumption) ?restr5x6q16
            case hyr5x6q16 => intro wq hSw; (go_simp); (try with_reducible rfl)
            try simp only [Act.put, List.setIfInBounds_toArray, List.set_cons_zero, List.set_cons_succ]
            refine wpAnyH_ready (rs := [4, 7]) (by kernel_rfl) (by simp) ?_
            refine AllReadyH.cons (o := { dst := some 52, op := Op.load 57 (Operand.tmp 51), type := 57, pos := "tape.go:208", after := #[{ on := 3, ground := Ground.data }], guard := none }) rfl (fun K hK => ?_) ?_
            · have cq := CE _ OQ
              go_simp
              clear cq
              refine hK.out _ _ (trivial) (fun hHeld => ?_)
              clear hK K
              try simp only [Act.put, List.setIfInBounds_toArray, List.set_cons_zero, List.set_cons_succ]
              refine wpAnyH_ready (rs := [7]) (by kernel_rfl) (by simp) ?_
              refine AllReadyH.cons (o := { dst := some 55, op := Op.call { callee := Callee.value (Operand.func 16), args := #[Operand.tmp 53, Operand.tmp 54], argTypes := #[24, 3] }, type := 3, pos := "tape.go:208", after := #[{ on := 5, ground := Ground.data }, { on := 6, ground := Ground.data }], guard := none }) rfl (fun K hK => ?_) AllReadyH.nil
              go_simp
              ((with_reducible refine (next_t (hn3 : Int) _ T (by omega) (by omega)).mono ?_))
              clear T
              rintro e w5 ⟨m, rfl, m0, m1, T, k2⟩
              obtain ⟨m, rfl⟩ := Int.eq_ofNat_of_zero_le m0
              replace OQ := OQ.nxb hbw k2
              replace own := own.nxb hbw k2
              replace kk := kk.nxb k2
              clear k2
              have hmc : (m : Int) < (hn3 : Int) := by omega
              refine hK.out _ _ (trivial) (fun hHeld => ?_)
              clear hK K
              try simp only [Act.put, List.setIfInBounds_toArray, List.set_cons_zero, List.set_cons_succ]
              refine wpAnyH_take (i := 8) (oi := { dst := some 56, op := Op.indexAddr 57 (Operand.tmp 52) (Operand.tmp 55), type := 0, pos := "tape.go:208", after := #[{ on := 4, ground := Ground.data }, { on := 7, ground := Ground.data }], guard := none }) (v := ?_) rfl (by kernel_rfl) (by kernel_rfl) (by kernel_rfl) (fun _ _ _ h => h) (Or.inl ⟨by rfl, ?hyr5x8q42⟩) (by assumption) ?restr5x8q42
              case hyr5x8q42 => intro wq hSw; (go_simp); (try with_reducible rfl)
              try simp only [Act.put, List.setIfInBounds_toArray, List.set_cons_zero, List.set_cons_succ]
              refine wpAnyH_take (i := 9) (oi := { dst := some 14, op := Op.assign (Operand.tmp 56), type := 60, pos := "tape.go:208", after := #[{ on := 8, ground := Ground.data }, { on := 7, ground := Ground.chain }, { on := 0, ground := Ground.phase }, { on := 1, ground := Ground.phase }, { on := 2, ground := Ground.phase }, { on := 3, ground := Ground.phase }, { on := 4, ground := Ground.phase }, { on := 5, ground := Ground.phase }, { on := 6, ground := Ground.phase }, { on := 7, ground := Ground.phase }, { on := 8, ground := Ground.phase }], guard := none }) (v := ?_) rfl (by kernel_rfl) (by kernel_rfl) (by kernel_rfl) (fun _ _ _ h => h) (Or.inl ⟨by rfl, ?hyr5x9q45⟩) (by assumption) ?restr5x9q45
              case hyr5x9q45 => intro wq hSw; (go_simp); (try with_reducible rfl)
              try simp only [Act.put, List.setIfInBounds_toArray, List.set_cons_zero, List.set_cons_succ]
              refine wpAnyH_done (by kernel_rfl) ?_ _
              have hml : m < c.2.length := by rw [← HN3.out]; omega
              obtain ⟨yy, hyy⟩ : ∃ yy, c.2[m]? = some yy := ⟨c.2[m], by simp⟩
              have HYY := Lib.hid hyy
              have yok := Lib.hid (cok.out.2.2 yy (List.mem_of_getElem? hyy))
              clear hyy
              go_wp2_with fail
              refine (bool_t 2 _ T (by omega) (by omega)).mono ?_
              clear T
              rintro e w6 ⟨rr, rfl, T, k2⟩
              replace OQ := OQ.nxb hbw k2
              replace own := own.nxb hbw k2
              replace kk := kk.nxb k2
              clear k2
              cases rr with
              | true =>
                go_wp2_with fail
                refine (id_t _ _ _ _ _ T (HS.out.nxb kk) (by omega) HI.out).mono ?_
                clear T
                rintro e w7 ⟨i2, rfl, I2, T, k2⟩
                replace OQ := OQ.nxb hbw k2
                replace own := own.nxb hbw k2
                replace kk := kk.nxb k2
                obtain ⟨pc, pf, OS⟩ := own_set1 (sz := 2) (enc := encS) (c := 0) (fun _ => rfl) own HYY.out (by omega)
                have OS := Lib.hid (OS (i2, yy.2) (.int .i64 i2) rfl)
                have pc : w7.cell? ⟨gi, m * 2, none⟩ = some (.int .i64 yy.1) := pc
                have pf : w7.frozen? ⟨gi, m * 2, none⟩ = false := pf
                clear k2
                go_wp2_with fail
                have OQ := OwnN.keep (p := 1) (by decide) OQ hqj (c' := c.2.set m (i2, yy.2)) OS.out ((Chg.refl _ w7).setCell _ (fun x hx he => hx.2 (by rw [he]; rfl)))
                have T : TK _ b := TK.set T (p := ⟨gi, m * 2, none⟩) (.int .i64 i2) (by show b < gi; omega)
                have kk := kk.setNew (p := ⟨gi, m * 2, none⟩) (.int .i64 i2) hgi
                exact ⟨⟨q - 1, _, _, by omega, by first | rfl | rw [hqm], OQ, lk_mono (lk_set LO.out j ⟨cok.out.1, by show (c.2.set m (i2, yy.2)).length ≤ _; rw [List.length_set, ← HN3.out]; omega, fun y hy => by rcases List.mem_or_eq_of_mem_set hy with h1 | h1; exact cok.out.2.2 y h1; rw [h1]; exact ⟨I2, yok.out.2⟩⟩) (by omega) (by omega), T, kk⟩, by simp [intOf]; omega⟩
              | false =>
                go_wp2_with fail
                refine (id_t _ _ _ _ _ T (HS.out.nxb kk) (by omega) HI.out).mono ?_
                clear T
                rintro e w7 ⟨i2, rfl, I2, T, k2⟩
                replace OQ := OQ.nxb hbw k2
                replace own := own.nxb hbw k2
                replace kk := kk.nxb k2
                obtain ⟨pc, pf, OS⟩ := own_set1 (sz := 2) (enc := encS) (c := 1) (fun _ => rfl) own HYY.out (by omega)
                have OS := Lib.hid (OS (yy.1, i2) (.int .i64 i2) rfl)
                have pc : w7.cell? ⟨gi, m * 2 + 1, none⟩ = some (.int .i64 yy.2) := pc
                have pf : w7.frozen? ⟨gi, m * 2 + 1, none⟩ = false := pf
                clear k2
                go_wp2_with fail
                have OQ := OwnN.keep (p := 1) (by decide) OQ hqj (c' := c.2.set m (yy.1, i2)) OS.out ((Chg.refl _ w7).setCell _ (fun x hx he => hx.2 (by rw [he]; rfl)))
                have T : TK _ b := TK.set T (p := ⟨gi, m * 2 + 1, none⟩) (.int .i64 i2) (by show b < gi; omega)
                have kk := kk.setNew (p := ⟨gi, m * 2 + 1, none⟩) (.int .i64 i2) hgi
                exact ⟨⟨q - 1, _, _, by omega, by first | rfl | rw [hqm], OQ, lk_mono (lk_set LO.out j ⟨cok.out.1, by show (c.2.set m (yy.1, i2)).length ≤ _; rw [List.length_set, ← HN3.out]; omega, fun y hy => by rcases List.mem_or_eq_of_mem_set hy with h1 | h1; exact cok.out.2.2 y h1; rw [h1]; exact ⟨yok.out.1, I2⟩⟩) (by omega) (by omega), T, kk⟩, by simp [intOf]; omega⟩
            refine AllReadyH.cons (o := { dst := some 55, op := Op.call { callee := Callee.value (Operand.func 16), args := #[Operand.tmp 53, Operand.tmp 54], argTypes := #[24, 3] }, type := 3, pos := "tape.go:208", after := #[{ on := 5, ground := Ground.data }, { on := 6, ground := Ground.data }], guard := none }) rfl (fun K hK => ?_) AllReadyH.nil
            · go_simp
              ((with_reducible refine (next_t (hn3 : Int) _ T (by omega) (by omega)).mono ?_))
              clear T
              rintro e w5 ⟨m, rfl, m0, m1, T, k2⟩
              obtain ⟨m, rfl⟩ := Int.eq_ofNat_of_zero_le m0
              replace OQ := OQ.nxb hbw k2
              replace own := own.nxb hbw k2
              replace kk := kk.nxb k2
              clear k2
              have hmc : (m : Int) < (hn3 : Int) := by omega
              refine hK.out _ _ (trivial) (fun hHeld => ?_)
              clear hK K
              try simp only [Act.put, List.setIfInBounds_toArray, List.set_cons_zero, List.set_cons_succ]
              refine wpAnyH_ready (rs := [4]) (by kernel_rfl) (by simp) ?_
              refine AllReadyH.cons (o := { dst := some 52, op := Op.load 57 (Operand.tmp 51), type := 57, pos := "tape.go:208", after := #[{ on := 3, ground := Ground.data }], guard := none }) rfl (fun K hK => ?_) AllReadyH.nil
              have cq := CE _ OQ
              go_simp
              clear cq
              refine hK.out _ _ (trivial) (fun hHeld => ?_)
              clear hK K
              try simp only [Act.put, List.setIfInBounds_toArray, List.set_cons_zero, List.set_cons_succ]
              refine wpAnyH_take (i := 8) (oi := { dst := some 56, op := Op.indexAddr 57 (Operand.tmp 52) (Operand.tmp 55), type := 0, pos := "tape.go:208", after := #[{ on := 4, ground := Ground.data }, { on := 7, ground := Ground.data }], guard := none }) (v := ?_) rfl (by kernel_rfl) (by kernel_rfl) (by kernel_rfl) (fun _ _ _ h => h) (Or.inl ⟨by rfl, ?hyr5x8q72⟩) (by assumption) ?restr5x8q72
              case hyr5x8q72 => intro wq hSw; (go_simp); (try with_reducible rfl)
              try simp only [Act.put, List.setIfInBounds_toArray, List.set_cons_zero, List.set_cons_succ]
              refine wpAnyH_take (i := 9) (oi := { dst := some 14, op := Op.assign (Operand.tmp 56), type := 60, pos := "tape.go:208", after := #[{ on := 8, ground := Ground.data }, { on := 7, ground := Ground.chain }, { on := 0, ground := Ground.phase }, { on := 1, ground := Ground.phase }, { on := 2, ground := Ground.phase }, { on := 3, ground := Ground.phase }, { on := 4, ground := Ground.phase }, { on := 5, ground := Ground.phase }, { on := 6, ground := Ground.phase }, { on := 7, ground := Ground.phase }, { on := 8, ground := Ground.phase }], guard := none }) (v := ?_) rfl (by kernel_rfl) (by kernel_rfl) (by kernel_rfl) (fun _ _ _ h => h) (Or.inl ⟨by rfl, ?hyr5x9q75⟩) (by assumption) ?restr5x9q75
              case hyr5x9q75 => intro wq hSw; (go_simp); (try with_reducible rfl)
              try simp only [Act.put, List.setIfInBounds_toArray, List.set_cons_zero, List.set_cons_succ]
              refine wpAnyH_done (by kernel_rfl) ?_ _
              have hml : m < c.2.length := by rw [← HN3.out]; omega
              obtain ⟨yy, hyy⟩ : ∃ yy, c.2[m]? = some yy := ⟨c.2[m], by simp⟩
              have HYY := Lib.hid hyy
              have yok := Lib.hid (cok.out.2.2 yy (List.mem_of_getElem? hyy))
              clear hyy
              go_wp2_with fail
              refine (bool_t 2 _ T (by omega) (by omega)).mono ?_
              clear T
              rintro e w6 ⟨rr, rfl, T, k2⟩
              replace OQ := OQ.nxb hbw k2
              replace own := own.nxb hbw k2
              replace kk := kk.nxb k2
              clear k2
              cases rr with
              | true =>
                go_wp2_with fail
                refine (id_t _ _ _ _ _ T (HS.out.nxb kk) (by omega) HI.out).mono ?_
                clear T
                rintro e w7 ⟨i2, rfl, I2, T, k2⟩
                replace OQ := OQ.nxb hbw k2
                replace own := own.nxb hbw k2
                replace kk := kk.nxb k2
                obtain ⟨pc, pf, OS⟩ := own_set1 (sz := 2) (enc := encS) (c := 0) (fun _ => rfl) own HYY.out (by omega)
                have OS := Lib.hid (OS (i2, yy.2) (.int .i64 i2) rfl)
                have pc : w7.cell? ⟨gi, m * 2, none⟩ = some (.int .i64 yy.1) := pc
                have pf : w7.frozen? ⟨gi, m * 2, none⟩ = false := pf
                clear k2
                go_wp2_with fail
                have OQ := OwnN.keep (p := 1) (by decide) OQ hqj (c' := c.2.set m (i2, yy.2)) OS.out ((Chg.refl _ w7).setCell _ (fun x hx he => hx.2 (by rw [he]; rfl)))
                have T : TK _ b := TK.set T (p := ⟨gi, m * 2, none⟩) (.int .i64 i2) (by show b < gi; omega)
                have kk := kk.setNew (p := ⟨gi, m * 2, none⟩) (.int .i64 i2) hgi
                exact ⟨⟨q - 1, _, _, by omega, by first | rfl | rw [hqm], OQ, lk_mono (lk_set LO.out j ⟨cok.out.1, by show (c.2.set m (i2, yy.2)).length ≤ _; rw [List.length_set, ← HN3.out]; omega, fun y hy => by rcases List.mem_or_eq_of_mem_set hy with h1 | h1; exact cok.out.2.2 y h1; rw [h1]; exact ⟨I2, yok.out.2⟩⟩) (by omega) (by omega), T, kk⟩, by simp [intOf]; omega⟩
              | false =>
                go_wp2_with fail
                refine (id_t _ _ _ _ _ T (HS.out.nxb kk) (by omega) HI.out).mono ?_
                clear T
                rintro e w7 ⟨i2, rfl, I2, T, k2⟩
                replace OQ := OQ.nxb hbw k2
                replace own := own.nxb hbw k2
                replace kk := kk.nxb k2
                obtain ⟨pc, pf, OS⟩ := own_set1 (sz := 2) (enc := encS) (c := 1) (fun _ => rfl) own HYY.out (by omega)
                have OS := Lib.hid (OS (yy.1, i2) (.int .i64 i2) rfl)
                have pc : w7.cell? ⟨gi, m * 2 + 1, none⟩ = some (.int .i64 yy.2) := pc
                have pf : w7.frozen? ⟨gi, m * 2 + 1, none⟩ = false := pf
                clear k2
                go_wp2_with fail
                have OQ := OwnN.keep (p := 1) (by decide) OQ hqj (c' := c.2.set m (yy.1, i2)) OS.out ((Chg.refl _ w7).setCell _ (fun x hx he => hx.2 (by rw [he]; rfl)))
                have T : TK _ b := TK.set T (p := ⟨gi, m * 2 + 1, none⟩) (.int .i64 i2) (by show b < gi; omega)
                have kk := kk.setNew (p := ⟨gi, m * 2 + 1, none⟩) (.int .i64 i2) hgi
                exact ⟨⟨q - 1, _, _, by omega, by first | rfl | rw [hqm], OQ, lk_mono (lk_set LO.out j ⟨cok.out.1, by show (c.2.set m (yy.1, i2)).length ≤ _; rw [List.length_set, ← HN3.out]; omega, fun y hy => by rcases List.mem_or_eq_of_mem_set hy with h1 | h1; exact cok.out.2.2 y h1; rw [h1]; exact ⟨yok.out.1, I2⟩⟩) (by omega) (by omega), T, kk⟩, by simp [intOf]; omega⟩
    · have OQ := Lib.hid OQ
      clear NL3 some3
      go_wp2_with fail
      go_ret
      exact ⟨_, qs, L, rfl, OQ.out, lk_mono LO.out (by omega) (by omega), T, kk⟩
end Go.Proofs.YtjaemckdfoaopabDoor
