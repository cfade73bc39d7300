/- Texts for the statement WireNodesProof, part 8 of 12: EncL. -/
import Derived.Test.YtjaemckdfoaopaaDoorWireNodesProofPk5
import Derived.Test.YtjaemckdfoaopaaDoorWireNodesProofPk7

/- EncodeLinks of the package wire and of its reference. -/
namespace Go.Proofs.YtjaemckdfoaopaaDoor
open Go.RowKit

/-- what the encoding asks of the links of a node -/
def LOkE (c : Lkd) : Prop := I64 c.1 ∧ c.2.length ≤ 9223372036854775807 ∧ ∀ y ∈ c.2, I64 y.1 ∧ I64 y.2
def encLv (y : Int × Int) : List UInt8 := encU (zig y.1) ++ encU (zig y.2)
def encLk (c : Lkd) : List UInt8 := encU (zig c.1) ++ encU c.2.length ++ c.2.flatMap encLv
def encLks (L : List Lkd) : List UInt8 × Int := if 64 < L.length then ([], 3) else if L.any (fun c => decide (17 < c.2.length)) then ([], 3) else (encU L.length ++ L.flatMap encLk, 0)
def EncLRel (L : List Lkd) (n : Nat) (w : World) (o i : Value) (wr : World) : Prop :=
  ∃ k : Nat, k ≤ n ∧ i = .int .i64 k ∧ OwnL 1 encB 5 w.heap.size wr o (encU n ++ (L.take k).flatMap encLk) ∧ Ex w wr ∧ ∀ j z, j < k → L[j]? = some z → z.2.length ≤ 17
def EncVRel (c : List (Int × Int)) (b : List UInt8) (n base : Nat) (w : World) (o i : Value) (wr : World) : Prop :=
  ∃ k : Nat, k ≤ n ∧ i = .int .i64 k ∧ OwnL 1 encB 5 base wr o (b ++ (c.take k).flatMap encLv) ∧ Ex w wr
theorem flat_le {α β : Type} {f : α → List β} {m : Nat} : ∀ (l : List α), (∀ y ∈ l, (f y).length ≤ m) → (l.flatMap f).length ≤ m * l.length
  | [], _ => by simp
  | y :: r, h => by
    have h1 := h y (by simp)
    have h2 := flat_le r (fun z hz => h z (List.mem_cons_of_mem _ hz))
    rw [List.flatMap_cons, List.length_append, List.length_cons, Nat.mul_succ]; omega
theorem encLv_le (y : Int × Int) : (encLv y).length ≤ 20 := by
  unfold encLv
  have := encU_length (zig y.1); have := encU_length (zig y.2)
  rw [List.length_append]; omega
theorem enclv_take_le (c : List (Int × Int)) (k : Nat) : ((c.take k).flatMap encLv).length ≤ 20 * k := by
  have := flat_le (f := encLv) (m := 20) (c.take k) (fun y _ => encLv_le y)
  have h2 : (c.take k).length ≤ k := by rw [List.length_take]; omega
  have := Nat.mul_le_mul_left 20 h2
  omega
theorem encl_take_le (L : List Lkd) (k : Nat) (h : ∀ j z, j < k → L[j]? = some z → z.2.length ≤ 17) : ((L.take k).flatMap encLk).length ≤ 400 * k := by
  have := flat_le (f := encLk) (m := 400) (L.take k) (fun c hc => by
    obtain ⟨j, hj, he⟩ := List.mem_iff_getElem.1 hc
    have hjk : j < k := by rw [List.length_take] at hj; omega
    have h17 := h j c hjk (by rw [List.getElem_take] at he; rw [← he]; simp)
    have h1 := encU_length (zig c.1)
    have h2 := encU_length c.2.length
    have h3 := flat_le (f := encLv) (m := 20) c.2 (fun y _ => encLv_le y)
    unfold encLk
    rw [List.length_append, List.length_append]; omega)
  have h2 : (L.take k).length ≤ k := by rw [List.length_take]; omega
  have := Nat.mul_le_mul_left 400 h2
  omega

set_option maxRecDepth 100000 in
set_option maxHeartbeats 4000000 in
theorem encl_p (a : Option Addr) (n cp : Nat) (L : List Lkd) (w : World) (hs : LkL w a n L) (hn : n ≤ 1000) (hok : ∀ c ∈ L, LOkE c) :
    Calls Tryd.prog 26 #[.slice a n cp] w (EncP (encLks L) w) := by
  have OK := Lib.hid hok
  have HL := Lib.hid hs.len
  clear hok
  go_enter Tryd.func26, Tryd.ntmps26
  by_cases h64 : 64 < n
  · have HE : Hid (encLks L = ([], 3)) := Lib.hid (by unfold encLks; rw [if_pos (by rw [HL.out]; exact h64)])
    clear hs
    go_wp2_with fail
    go_ret2
    rw [HE.out]
    exact ⟨_, rfl, OwnL.nil _ _ _ _ _, Ex.refl _⟩
  have hs := Lib.hid hs
  have hwn : IntKind.u64.wrap (n : Int) = (n : Int) := by rw [wrap_u64n]; omega
  go_wp2_with fail
  (with_reducible refine (appuint_p _ _ _ [] n _ (Sl.nil _ _ _ _) (by omega) (fun _ => rfl) (by omega)).mono ?_)
  rintro e w1 ⟨v1, rfl, own, kk⟩
  rw [List.nil_append] at own
  have own : OwnL 1 encB 5 w.heap.size w1 v1 (encU n ++ (L.take 0).flatMap encLk) := by simpa using own
  go_wp2_with fail
  go_loopw [4, 18] (fun o i wr => EncLRel L n w o i wr) (fun _ i _ => n - (intOf i).toNat)
  case atStart => exact ⟨0, by omega, rfl, own, kk, by intro _ _ h; omega⟩
  case round =>
    clear own kk
    obtain ⟨k, hk, rfl, own, kw, hsh⟩ := hrel
    have HSH := Lib.hid hsh
    obtain ⟨wo, rfl⟩ : ∃ wo : World, wo = wr := ⟨_, rfl⟩
    clear hsh
    by_cases hlt : k < n
    · obtain ⟨x1, o1, a', n', c', c, rfl, hx1, hy, hc1, r1⟩ := (hs.out.nx kw).at hlt
      have e0 : wo.cell? ⟨x1, o1 + k * 2, none⟩ = some (.int .i64 c.1) := hc1 0 _ rfl
      have e1 : wo.cell? ⟨x1, o1 + k * 2 + 1, none⟩ = some (.slice a' n' c') := hc1 1 _ rfl
      obtain ⟨⟨i1, i1x⟩, i3, i2⟩ := OK.out c (List.mem_of_getElem? hy)
      have HY := Lib.hid hy
      have FSn := Lib.hid (flat_snoc encLk L k c hy)
      have hbl := encl_take_le L k HSH.out
      have hcn := Lib.hid r1.len
      have hn2 : n' ≤ 9223372036854775807 := by rw [← r1.len]; exact i3
      clear hc1 hy i3
      have B7 := Blk.new wo [.int .i64 c.1, .slice a' n' c'] 76
      have k2 := Ex.new wo (.cells #[.int .i64 c.1, .slice a' n' c'] 76)
      obtain ⟨w2, hw2⟩ : ∃ w2, w2 = wo.alloc (.cells #[.int .i64 c.1, .slice a' n' c'] 76) := ⟨_, rfl⟩
      obtain ⟨g7, hg7⟩ : ∃ g7, g7 = wo.heap.size := ⟨_, rfl⟩
      have B7 : Blk w2 g7 [.int .i64 c.1, .slice a' n' c'] 76 := by rw [hw2, hg7]; exact B7
      rw [← hw2] at k2
      have HW2 := Lib.hid hw2
      have HG7 := Lib.hid hg7
      replace own := own.nx k2
      replace kw := kw.nx k2
      replace r1 := r1.nx k2
      clear hw2 hg7 k2
      go_upto_region 7 with fail
      rw [← HG7.out, ← HW2.out]
      clear e0 e1
      have e0 := B7.cell 0 _ rfl
      have e1 := B7.cell 1 _ rfl
      have hx1 := B7.lt
      by_cases hkey : 17 < n'
      · have HE : Hid (encLks L = ([], 3)) := Lib.hid (by
          unfold encLks
          rw [if_neg (by rw [HL.out]; exact h64), if_pos (List.any_eq_true.2 ⟨c, List.mem_of_getElem? HY.out, by rw [hcn.out]; simpa using hkey⟩)])
        have dk : (17 : Int) < (n' : Int) := by omega
        clear own FSn hbl r1
        go_wp2_with fail
        go_ret2
        rw [HE.out]
        exact ⟨_, rfl, OwnL.nil _ _ _ _ _, kw⟩
      · have dk : ¬ (17 : Int) < (n' : Int) := by omega
        have hkey' : n' ≤ 17 := by omega
        obtain ⟨a3, c3, rfl, s3, o3, m3, nil3⟩ := own.slf (fun _ => rfl)
        have hnb := encU_length n
        have hlen3 : (encU n ++ (L.take k).flatMap encLk).length ≤ 10 + 400 * k := by rw [List.length_append]; omega
        have hk64 : k ≤ 64 := by omega
        obtain ⟨bs, hbs⟩ : ∃ bs, bs = encU n ++ (L.take k).flatMap encLk := ⟨_, rfl⟩
        rw [← hbs] at own s3 o3 hlen3 ⊢
        have HBS := Lib.hid hbs
        have s3 := Lib.hid s3.sl
        have NIL3 := Lib.hid nil3
        have hww : IntKind.u64.wrap (n' : Int) = (n' : Int) := by rw [wrap_u64n]; omega
        have l1 := encU_length (zig c.1)
        have l3 := encU_length n'
        have R1 := Lib.hid r1
        have I2 := Lib.hid i2
        clear nil3 hkey own hbl hnb hbs r1 i2
        go_wp2_with fail
        have KW := Lib.hid kw
        refine wp_region_held_drew (S := Ex w2.drew) (by kernel_rfl) (Ex.refl _) (fun hHeld => ?_)
        refine wpAnyH_take (i := 0) (oi := { dst := some 26, op := Op.move (Operand.tmp 4), type := 23, pos := "wire.go:129", after := #[], guard := none }) (v := ?_) rfl (by kernel_rfl) (by kernel_rfl) (by kernel_rfl) (fun _ _ _ h => h) (Or.inl ⟨by rfl, ?hyr1x0⟩) (by assumption) ?restr1x0
        case hyr1x0 => intro wq hSw; (go_simp); (try with_reducible rfl)
        try simp only [Act.put, List.setIfInBounds_toArray, List.set_cons_zero, List.set_cons_succ]
        refine wpAnyH_take (i := 1) (oi := { dst := some 27, op := Op.fieldAddr 76 (Operand.tmp 6) 0, type := 0, pos := "wire.go:129", after := #[], guard := none }) (v := ?_) rfl (by kernel_rfl) (by kernel_rfl) (by kernel_rfl) (fun _ _ _ h => h) (Or.inl ⟨by rfl, ?hyr1x1⟩) (by assumption) ?restr1x1
        case hyr1x1 => intro wq hSw; (go_simp); (try with_reducible rfl)
        try simp only [Act.put, List.setIfInBounds_toArray, List.set_cons_zero, List.set_cons_succ]
        refine wpAnyH_take (i := 2) (oi := { dst := some 28, op := Op.load 3 (Operand.tmp 27), type := 3, pos := "wire.go:129", after := #[{ on := 1, ground := Ground.data }], guard := none }) (v := ?_) rfl (by kernel_rfl) (by kernel_rfl) (by kernel_rfl) (fun _ _ _ h => h) (Or.inl ⟨by rfl, ?hyr1x2⟩) (by assumption) ?restr1x2
        case hyr1x2 => intro wq hSw; (have cq := Chg.cellv hSw e0 hx1; go_simp); (try with_reducible rfl)
        try simp only [Act.put, List.setIfInBounds_toArray, List.set_cons_zero, List.set_cons_succ]
        refine wpAnyH_take (i := 4) (oi := { dst := some 30, op := Op.fieldAddr 76 (Operand.tmp 6) 1, type := 0, pos := "wire.go:129", after := #[], guard := none }) (v := ?_) rfl (by kernel_rfl) (by kernel_rfl) (by kernel_rfl) (fun _ _ _ h => h) (Or.inl ⟨by rfl, ?hyr1x4⟩) (by assumption) ?restr1x4
        case hyr1x4 => intro wq hSw; (go_simp); (try with_reducible rfl)
        try simp only [Act.put, List.setIfInBounds_toArray, List.set_cons_zero, List.set_cons_succ]
        refine wpAnyH_take (i := 5) (oi := { dst := some 31, op := Op.load 74 (Operand.tmp 30), type := 74, pos := "wire.go:129", after := #[{ on := 4, ground := Ground.data }], guard := none }) (v := ?_) rfl (by kernel_rfl) (by kernel_rfl) (by kernel_rfl) (fun _ _ _ h => h) (Or.inl ⟨by rfl, ?hyr1x5⟩) (by assumption) ?restr1x5
        case hyr1x5 => intro wq hSw; (have cq := Chg.cellv hSw e1 hx1; go_simp); (try with_reducible rfl)
        try simp only [Act.put, List.setIfInBounds_toArray, List.set_cons_zero, List.set_cons_succ]
        refine wpAnyH_take (i := 6) (oi := { dst := some 32, op := Op.call { callee := Callee.builtin Builtin.len, args := #[Operand.tmp 31], argTypes := #[74] }, type := 3, pos := "wire.go:129", after := #[{ on := 5, ground := Ground.data }], guard := none }) (v := ?_) rfl (by kernel_rfl) (by kernel_rfl) (by kernel_rfl) (fun _ _ _ h => h) (Or.inl ⟨by rfl, ?hyr1x6⟩) (by assumption) ?restr1x6
        case hyr1x6 => intro wq hSw; (go_simp); (try with_reducible rfl)
        try simp only [Act.put, List.setIfInBounds_toArray, List.set_cons_zero, List.set_cons_succ]
        refine wpAnyH_take (i := 7) (oi := { dst := some 33, op := Op.convert 3 31 (Operand.tmp 32), type := 31, pos := "wire.go:129", after := #[{ on := 6, ground := Ground.data }], guard := none }) (v := ?_) rfl (by kernel_rfl) (by kernel_rfl) (by kernel_rfl) (fun _ _ _ h => h) (Or.inl ⟨by rfl, ?hyr1x7⟩) (by assumption) ?restr1x7
        case hyr1x7 => intro wq hSw; (go_simp); (try with_reducible rfl)
        try simp only [Act.put, List.setIfInBounds_toArray, List.set_cons_zero, List.set_cons_succ]
        refine wpAnyH_ready (rs := [3]) (by kernel_rfl) (by simp) ?_
        refine AllReadyH.cons (o := { dst := some 29, op := Op.call { callee := Callee.value (Operand.func 18), args := #[Operand.tmp 26, Operand.tmp 28], argTypes := #[23, 2] }, type := 23, pos := "wire.go:129", after := #[{ on := 0, ground := Ground.data }, { on := 2, ground := Ground.data }], guard := none }) rfl (fun K hK => ?_) AllReadyH.nil
        go_simp
        (with_reducible refine (appint_p _ _ _ bs _ _ (s3.out.nx (Ex.refl w2).drew) (by omega) NIL3.out i1 i1x).mono ?_)
        rintro e w4 ⟨v4, rfl, own4, k4⟩
        obtain ⟨b4, hb4⟩ : ∃ b4, b4 = bs ++ encU (zig c.1) := ⟨_, rfl⟩
        rw [← hb4] at own4
        have n4 : b4.length ≤ 100000 := by rw [hb4, List.length_append]; omega
        have n4' : b4.length ≤ 20 + 400 * k := by rw [hb4, List.length_append]; omega
        have HB4 := Lib.hid hb4
        clear hb4
        obtain ⟨a4, c4, rfl, s4, _, _, nil4⟩ := own4.slf (fun _ => rfl)
        have e1 := Chg.cellv k4 e1 hx1
        have hx4 : g7 < w4.heap.size := Nat.lt_of_lt_of_le hx1 k4.size
        have s4 := Lib.hid s4.sl
        have NIL4 := Lib.hid nil4
        clear own4 nil4
        refine hK.out _ _ k4 (fun _ => ?_)
        clear hK K
        try simp only [Act.put, List.setIfInBounds_toArray, List.set_cons_zero, List.set_cons_succ]
        refine wpAnyH_switch (S' := Ex w4) (fun _ hSw => Ex.nx k4 hSw) ?_
        clear hHeld
        have hHeld := Ex.refl w4
        refine wpAnyH_ready (rs := [8]) (by kernel_rfl) (by simp) ?_
        refine AllReadyH.cons (o := { dst := some 34, op := Op.call { callee := Callee.value (Operand.func 17), args := #[Operand.tmp 29, Operand.tmp 33], argTypes := #[23, 31] }, type := 23, pos := "wire.go:129", after := #[{ on := 3, ground := Ground.data }, { on := 7, ground := Ground.data }, { on := 3, ground := Ground.chain }], guard := none }) rfl (fun K hK => ?_) AllReadyH.nil
        go_simp
        (with_reducible refine (appuint_p _ _ _ _ n' _ s4.out (by omega) NIL4.out (by omega)).mono ?_)
        rintro e w3 ⟨v6, rfl, own6, k6⟩
        obtain ⟨b6, hb6⟩ : ∃ b6, b6 = b4 ++ encU n' := ⟨_, rfl⟩
        rw [← hb6] at own6
        have n6 : b6.length ≤ 30 + 400 * k := by rw [hb6, List.length_append]; omega
        have HB6 := Lib.hid hb6
        clear hb6
        have e1 := Chg.cellv k6 e1 hx4
        refine hK.out _ _ k6 (fun _ => ?_)
        clear hK K
        try simp only [Act.put, List.setIfInBounds_toArray, List.set_cons_zero, List.set_cons_succ]
        refine wpAnyH_switch (S' := Ex w3) (fun _ hSw => Ex.nx k6 hSw) ?_
        clear hHeld
        have hHeld := Ex.refl w3
        refine wpAnyH_take (i := 9) (oi := { dst := some 4, op := Op.assign (Operand.tmp 34), type := 23, pos := "wire.go:129", after := #[{ on := 8, ground := Ground.data }, { on := 8, ground := Ground.chain }, { on := 0, ground := Ground.phase }, { on := 1, ground := Ground.phase }, { on := 2, ground := Ground.phase }, { on := 3, ground := Ground.phase }, { on := 4, ground := Ground.phase }, { on := 5, ground := Ground.phase }, { on := 6, ground := Ground.phase }, { on := 7, ground := Ground.phase }, { on := 8, ground := Ground.phase }], guard := none }) (v := ?_) rfl (by kernel_rfl) (by kernel_rfl) (by kernel_rfl) (fun _ _ _ h => h) (Or.inl ⟨by rfl, ?hyr1x9⟩) (by assumption) ?restr1x9
        case hyr1x9 => intro wq hSw; (go_simp); (try with_reducible rfl)
        try simp only [Act.put, List.setIfInBounds_toArray, List.set_cons_zero, List.set_cons_succ]
        refine wpAnyH_done (by kernel_rfl) ?_ _
        have kw3 := ((KW.out.nx (Ex.refl w2).drew).nx k4).nx k6
        have hx1 : g7 < w3.heap.size := Nat.lt_of_lt_of_le hx4 k6.size
        have R3 := Lib.hid (((R1.out.nx (Ex.refl w2).drew).nx k4).nx k6)
        have z5 : w.heap.size ≤ w4.heap.size := ((KW.out.nx (Ex.refl w2).drew).nx k4).size
        have own6 : OwnL 1 encB 5 w.heap.size w3 v6 (b6 ++ (c.2.take 0).flatMap encLv) := by simpa using own6.base z5
        have KW3 := Lib.hid kw3
        have z3 := kw3.size
        clear k4 k6 s3 s4 NIL3 NIL4 n4 n4' e0 z5 kw kw3
        go_wp2_with fail
        go_loopw [4, 38] (fun o i wr => EncVRel c.2 b6 n' w.heap.size w3 o i wr) (fun _ i _ => n' - (intOf i).toNat)
        case atStart => exact ⟨0, by omega, rfl, own6, Ex.refl _⟩
        case round =>
          clear own6
          obtain ⟨j, hj, rfl, own, kv⟩ := hrel
          obtain ⟨wi, rfl⟩ : ∃ wi : World, wi = wr := ⟨_, rfl⟩
          by_cases hjl : j < n'
          · obtain ⟨x5, o5, y, rfl, hx5, hy, hc5⟩ := (R3.out.nx kv).at hjl
            have f0 : wi.cell? ⟨x5, o5 + j * 2, none⟩ = some (.int .i64 y.1) := hc5 0 _ rfl
            have f1 : wi.cell? ⟨x5, o5 + j * 2 + 1, none⟩ = some (.int .i64 y.2) := hc5 1 _ rfl
            obtain ⟨⟨j1, j2⟩, j3, j4⟩ := I2.out y (List.mem_of_getElem? hy)
            have FV := Lib.hid (flat_snoc encLv c.2 j y hy)
            have hvl := enclv_take_le c.2 j
            have hj17 : j ≤ 17 := by omega
            clear hc5 hy
            have k5 := Ex.new wi (.cells #[.int .i64 y.1, .int .i64 y.2] 73)
            have B5 := Blk.new wi [.int .i64 y.1, .int .i64 y.2] 73
            obtain ⟨w5, hw5⟩ : ∃ w5, w5 = wi.alloc (.cells #[.int .i64 y.1, .int .i64 y.2] 73) := ⟨_, rfl⟩
            obtain ⟨g5, hg5⟩ : ∃ g5, g5 = wi.heap.size := ⟨_, rfl⟩
            have B5 : Blk w5 g5 [.int .i64 y.1, .int .i64 y.2] 73 := by rw [hw5, hg5]; exact B5
            rw [← hw5] at k5
            have HW5 := Lib.hid hw5
            have HG5 := Lib.hid hg5
            replace own := own.nx k5
            replace kv := kv.nx k5
            clear hw5 hg5 k5
            go_upto_region 13 with fail
            rw [← HG5.out, ← HW5.out]
            clear f0 f1
            have f0 := B5.cell 0 _ rfl
            have f1 := B5.cell 1 _ rfl
            have hx5 := B5.lt
            obtain ⟨a3, c3, rfl, s3, _, _, nil3⟩ := own.slf (fun _ => rfl)
            obtain ⟨bs3, hbs3⟩ : ∃ bs3, bs3 = b6 ++ (c.2.take j).flatMap encLv := ⟨_, rfl⟩
            have hl3 : bs3.length ≤ 100000 := by rw [hbs3, List.length_append]; omega
            rw [← hbs3] at own s3 ⊢
            have HBS3 := Lib.hid hbs3
            have s3 := Lib.hid s3.sl
            have NIL3 := Lib.hid nil3
            have l1 := encU_length (zig y.1)
            have KV := Lib.hid kv
            clear own hbs3 nil3 hvl kv
            go_wp2_with fail
            refine wp_region_held_drew (S := Ex w5.drew) (by kernel_rfl) (Ex.refl _) (fun hHeld => ?_)
            refine wpAnyH_take (i := 0) (oi := { dst := some 42, op := Op.move (Operand.tmp 4), type := 23, pos := "wire.go:131", after := #[], guard := none }) (v := ?_) rfl (by kernel_rfl) (by kernel_rfl) (by kernel_rfl) (fun _ _ _ h => h) (Or.inl ⟨by rfl, ?hyr2x0⟩) (by assumption) ?restr2x0
            case hyr2x0 => intro wq hSw; (go_simp); (try with_reducible rfl)
            try simp only [Act.put, List.setIfInBounds_toArray, List.set_cons_zero, List.set_cons_succ]
            refine wpAnyH_take (i := 1) (oi := { dst := some 43, op := Op.fieldAddr 73 (Operand.tmp 8) 0, type := 0, pos := "wire.go:131", after := #[], guard := none }) (v := ?_) rfl (by kernel_rfl) (by kernel_rfl) (by kernel_rfl) (fun _ _ _ h => h) (Or.inl ⟨by rfl, ?hyr2x1⟩) (by assumption) ?restr2x1
            case hyr2x1 => intro wq hSw; (go_simp); (try with_reducible rfl)
            try simp only [Act.put, List.setIfInBounds_toArray, List.set_cons_zero, List.set_cons_succ]
            refine wpAnyH_take (i := 2) (oi := { dst := some 44, op := Op.load 3 (Operand.tmp 43), type := 3, pos := "wire.go:131", after := #[{ on := 1, ground := Ground.data }], guard := none }) (v := ?_) rfl (by kernel_rfl) (by kernel_rfl) (by kernel_rfl) (fun _ _ _ h => h) (Or.inl ⟨by rfl, ?hyr2x2⟩) (by assumption) ?restr2x2
            case hyr2x2 => intro wq hSw; (have cq := Chg.cellv hSw f0 hx5; go_simp); (try with_reducible rfl)
            try simp only [Act.put, List.setIfInBounds_toArray, List.set_cons_zero, List.set_cons_succ]
            refine wpAnyH_take (i := 4) (oi := { dst := some 46, op := Op.fieldAddr 73 (Operand.tmp 8) 1, type := 0, pos := "wire.go:131", after := #[], guard := none }) (v := ?_) rfl (by kernel_rfl) (by kernel_rfl) (by kernel_rfl) (fun _ _ _ h => h) (Or.inl ⟨by rfl, ?hyr2x4⟩) (by assumption) ?restr2x4
            case hyr2x4 => intro wq hSw; (go_simp); (try with_reducible rfl)
            try simp only [Act.put, List.setIfInBounds_toArray, List.set_cons_zero, List.set_cons_succ]
            refine wpAnyH_take (i := 5) (oi := { dst := some 47, op := Op.load 3 (Operand.tmp 46), type := 3, pos := "wire.go:131", after := #[{ on := 4, ground := Ground.data }], guard := none }) (v := ?_) rfl (by kernel_rfl) (by kernel_rfl) (by kernel_rfl) (fun _ _ _ h => h) (Or.inl ⟨by rfl, ?hyr2x5⟩) (by assumption) ?restr2x5
            case hyr2x5 => intro wq hSw; (have cq := Chg.cellv hSw f1 hx5; go_simp); (try with_reducible rfl)
            try simp only [Act.put, List.setIfInBounds_toArray, List.set_cons_zero, List.set_cons_succ]
            refine wpAnyH_ready (rs := [3]) (by kernel_rfl) (by simp) ?_
            refine AllReadyH.cons (o := { dst := some 45, op := Op.call { callee := Callee.value (Operand.func 18), args := #[Operand.tmp 42, Operand.tmp 44], argTypes := #[23, 2] }, type := 23, pos := "wire.go:131", after := #[{ on := 0, ground := Ground.data }, { on := 2, ground := Ground.data }], guard := none }) rfl (fun K hK => ?_) AllReadyH.nil
            go_simp
            (with_reducible refine (appint_p _ _ _ bs3 _ _ (s3.out.nx (Ex.refl w5).drew) (by omega) NIL3.out j1 j2).mono ?_)
            rintro e w6 ⟨v4, rfl, own4, k6⟩
            obtain ⟨b7, hb7⟩ : ∃ b7, b7 = bs3 ++ encU (zig y.1) := ⟨_, rfl⟩
            rw [← hb7] at own4
            have n7 : b7.length ≤ 200000 := by rw [hb7, List.length_append]; omega
            have HB7 := Lib.hid hb7
            clear hb7
            obtain ⟨a4, c4, rfl, s4, _, _, nil4⟩ := own4.slf (fun _ => rfl)
            have f1 := Chg.cellv k6 f1 hx5
            have hx5 : g5 < w6.heap.size := Nat.lt_of_lt_of_le hx5 k6.size
            have s4 := Lib.hid s4.sl
            have NIL4 := Lib.hid nil4
            clear own4 nil4
            refine hK.out _ _ k6 (fun _ => ?_)
            clear hK K
            try simp only [Act.put, List.setIfInBounds_toArray, List.set_cons_zero, List.set_cons_succ]
            refine wpAnyH_switch (S' := Ex w6) (fun _ hSw => Ex.nx k6 hSw) ?_
            clear hHeld
            have hHeld := Ex.refl w6
            refine wpAnyH_ready (rs := [6]) (by kernel_rfl) (by simp) ?_
            refine AllReadyH.cons (o := { dst := some 48, op := Op.call { callee := Callee.value (Operand.func 18), args := #[Operand.tmp 45, Operand.tmp 47], argTypes := #[23, 2] }, type := 23, pos := "wire.go:131", after := #[{ on := 3, ground := Ground.data }, { on := 5, ground := Ground.data }, { on := 3, ground := Ground.chain }], guard := none }) rfl (fun K hK => ?_) AllReadyH.nil
            go_simp
            (with_reducible refine (appint_p _ _ _ _ _ _ s4.out n7 NIL4.out j3 j4).mono ?_)
            rintro e w7 ⟨v7, rfl, own7, k7⟩
            refine hK.out _ _ k7 (fun _ => ?_)
            clear hK K
            try simp only [Act.put, List.setIfInBounds_toArray, List.set_cons_zero, List.set_cons_succ]
            refine wpAnyH_switch (S' := Ex w7) (fun _ hSw => Ex.nx k7 hSw) ?_
            clear hHeld
            have hHeld := Ex.refl w7
            refine wpAnyH_take (i := 7) (oi := { dst := some 4, op := Op.assign (Operand.tmp 48), type := 23, pos := "wire.go:131", after := #[{ on := 6, ground := Ground.data }, { on := 6, ground := Ground.chain }, { on := 0, ground := Ground.phase }, { on := 1, ground := Ground.phase }, { on := 2, ground := Ground.phase }, { on := 3, ground := Ground.phase }, { on := 4, ground := Ground.phase }, { on := 5, ground := Ground.phase }, { on := 6, ground := Ground.phase }], guard := none }) (v := ?_) rfl (by kernel_rfl) (by kernel_rfl) (by kernel_rfl) (fun _ _ _ h => h) (Or.inl ⟨by rfl, ?hyr2x7⟩) (by assumption) ?restr2x7
            case hyr2x7 => intro wq hSw; (go_simp); (try with_reducible rfl)
            try simp only [Act.put, List.setIfInBounds_toArray, List.set_cons_zero, List.set_cons_succ]
            refine wpAnyH_done (by kernel_rfl) ?_ _
            have kv7 := ((KV.out.nx (Ex.refl w5).drew).nx k6).nx k7
            have z6 : w.heap.size ≤ w6.heap.size := Nat.le_trans z3 ((KV.out.nx (Ex.refl w5).drew).nx k6).size
            clear k6 k7 s3 s4 NIL3 NIL4 n7 f0 f1
            go_wp2_with fail
            refine ⟨⟨j + 1, by omega, by go_num, ?_, kv7⟩, by simp [intOf]; omega⟩
            rw [FV.out, ← List.append_assoc, ← HBS3.out]
            unfold encLv
            rw [← List.append_assoc, ← HB7.out]
            exact own7.base z6
          · obtain rfl : j = n' := by omega
            rw [List.take_of_length_le (by rw [hcn.out]; exact Nat.le_refl _)] at own
            have kw7 := KW3.out.nx kv
            obtain ⟨a3, c3, rfl, _⟩ := own.slf (fun _ => rfl)
            clear hj hjl kv
            go_wp2_with fail
            refine ⟨⟨k + 1, by omega, by go_num, ?_, kw7, fun j z hj hz => ?_⟩, by simp [intOf]; omega⟩
            · rw [FSn.out, ← List.append_assoc, ← HBS.out]
              unfold encLk
              rw [hcn.out, ← List.append_assoc, ← List.append_assoc, ← HB4.out, ← HB6.out]
              exact own
            · rcases Nat.lt_or_ge j k with h | h
              · exact HSH.out j z h hz
              · obtain rfl : j = k := by omega
                rw [Option.some.inj (hz.symm.trans HY.out), hcn.out]
                exact hkey'
    · obtain rfl : k = n := by omega
      rw [List.take_of_length_le (by rw [HL.out]; exact Nat.le_refl _)] at own
      have HE : Hid (encLks L = (encU k ++ L.flatMap encLk, 0)) := Lib.hid (by
        unfold encLks
        rw [if_neg (by rw [HL.out]; exact h64), if_neg, HL.out]
        rw [List.any_eq_true]
        rintro ⟨z, hz, hk⟩
        obtain ⟨j, hj, he⟩ := List.mem_iff_getElem.1 hz
        have := HSH.out j z (by rw [← HL.out]; exact hj) (by rw [← he]; simp)
        simp at hk
        omega)
      obtain ⟨a3, c3, rfl, _⟩ := own.slf (fun _ => rfl)
      clear hk hlt
      go_wp2_with fail
      go_ret2
      rw [HE.out]
      exact ⟨_, rfl, own, kw⟩

set_option maxRecDepth 100000 in
set_option maxHeartbeats 4000000 in
theorem encl_r (a : Option Addr) (n cp : Nat) (L : List Lkd) (w : World) (hs : LkL w a n L) (hn : n ≤ 1000) (hok : ∀ c ∈ L, LOkE c) :
    Calls Tryd.prog 27 #[.slice a n cp] w (EncP (encLks L) w) := by
  have OK := Lib.hid hok
  have HL := Lib.hid hs.len
  clear hok
  go_enter Tryd.func27, Tryd.ntmps27
  by_cases h64 : 64 < n
  · have HE : Hid (encLks L = ([], 3)) := Lib.hid (by unfold encLks; rw [if_pos (by rw [HL.out]; exact h64)])
    clear hs
    go_wp2_with fail
    go_ret2
    rw [HE.out]
    exact ⟨_, rfl, OwnL.nil _ _ _ _ _, Ex.refl _⟩
  have hs := Lib.hid hs
  have hwn : IntKind.u64.wrap (n : Int) = (n : Int) := by rw [wrap_u64n]; omega
  go_wp2_with fail
  (with_reducible refine (appuint_r _ _ _ [] n _ (Sl.nil _ _ _ _) (by omega) (fun _ => rfl) (by omega)).mono ?_)
  rintro e w1 ⟨v1, rfl, own, kk⟩
  rw [List.nil_append] at own
  have own : OwnL 1 encB 5 w.heap.size w1 v1 (encU n ++ (L.take 0).flatMap encLk) := by simpa using own
  go_wp2_with fail
  go_loopw [4, 5] (fun o i wr => EncLRel L n w o i wr) (fun _ i _ => n - (intOf i).toNat)
  case atStart => exact ⟨0, by omega, rfl, own, kk, by intro _ _ h; omega⟩
  case round =>
    clear own kk
    obtain ⟨k, hk, rfl, own, kw, hsh⟩ := hrel
    have HSH := Lib.hid hsh
    obtain ⟨wo, rfl⟩ : ∃ wo : World, wo = wr := ⟨_, rfl⟩
    clear hsh
    by_cases hlt : k < n
    · obtain ⟨x1, o1, a', n', c', c, rfl, hx1, hy, hc1, r1⟩ := (hs.out.nx kw).at hlt
      have e0 : wo.cell? ⟨x1, o1 + k * 2, none⟩ = some (.int .i64 c.1) := hc1 0 _ rfl
      have e1 : wo.cell? ⟨x1, o1 + k * 2 + 1, none⟩ = some (.slice a' n' c') := hc1 1 _ rfl
      obtain ⟨⟨i1, i1x⟩, i3, i2⟩ := OK.out c (List.mem_of_getElem? hy)
      have HY := Lib.hid hy
      have FSn := Lib.hid (flat_snoc encLk L k c hy)
      have hbl := encl_take_le L k HSH.out
      have hcn := Lib.hid r1.len
      have hn2 : n' ≤ 9223372036854775807 := by rw [← r1.len]; exact i3
      clear hc1 hy i3
      obtain ⟨w2, rfl⟩ : ∃ w2 : World, w2 = wo := ⟨_, rfl⟩
      by_cases hkey : 17 < n'
      · have HE : Hid (encLks L = ([], 3)) := Lib.hid (by
          unfold encLks
          rw [if_neg (by rw [HL.out]; exact h64), if_pos (List.any_eq_true.2 ⟨c, List.mem_of_getElem? HY.out, by rw [hcn.out]; simpa using hkey⟩)])
        have dk : (17 : Int) < (n' : Int) := by omega
        clear own FSn hbl r1
        go_wp2_with fail
        go_ret2
        rw [HE.out]
        exact ⟨_, rfl, OwnL.nil _ _ _ _ _, kw⟩
      · have dk : ¬ (17 : Int) < (n' : Int) := by omega
        have hkey' : n' ≤ 17 := by omega
        obtain ⟨a3, c3, rfl, s3, o3, m3, nil3⟩ := own.slf (fun _ => rfl)
        have hnb := encU_length n
        have hlen3 : (encU n ++ (L.take k).flatMap encLk).length ≤ 10 + 400 * k := by rw [List.length_append]; omega
        have hk64 : k ≤ 64 := by omega
        obtain ⟨bs, hbs⟩ : ∃ bs, bs = encU n ++ (L.take k).flatMap encLk := ⟨_, rfl⟩
        rw [← hbs] at own s3 o3 hlen3 ⊢
        have HBS := Lib.hid hbs
        have s3 := Lib.hid s3.sl
        have NIL3 := Lib.hid nil3
        have hww : IntKind.u64.wrap (n' : Int) = (n' : Int) := by rw [wrap_u64n]; omega
        have l1 := encU_length (zig c.1)
        have l3 := encU_length n'
        have R1 := Lib.hid r1
        have I2 := Lib.hid i2
        clear nil3 hkey own hbl hnb hbs r1 i2
        go_wp2_with fail
        have KW := Lib.hid kw
        refine wp_region_held_drew (S := Ex w2.drew) (by kernel_rfl) (Ex.refl _) (fun hHeld => ?_)
        refine wpAnyH_take (i := 0) (oi := { dst := some 27, op := Op.move (Operand.tmp 4), type := 23, pos := "ref.go:152", after := #[], guard := none }) (v := ?_) rfl (by kernel_rfl) (by kernel_rfl) (by kernel_rfl) (fun _ _ _ h => h) (Or.inl ⟨by rfl, ?hyr3x0⟩) (by assumption) ?restr3x0
        case hyr3x0 => intro wq hSw; (go_simp); (try with_reducible rfl)
        try simp only [Act.put, List.setIfInBounds_toArray, List.set_cons_zero, List.set_cons_succ]
        refine wpAnyH_take (i := 1) (oi := { dst := some 28, op := Op.move (Operand.tmp 0), type := 44, pos := "ref.go:152", after := #[], guard := none }) (v := ?_) rfl (by kernel_rfl) (by kernel_rfl) (by kernel_rfl) (fun _ _ _ h => h) (Or.inl ⟨by rfl, ?hyr3x1⟩) (by assumption) ?restr3x1
        case hyr3x1 => intro wq hSw; (go_simp); (try with_reducible rfl)
        try simp only [Act.put, List.setIfInBounds_toArray, List.set_cons_zero, List.set_cons_succ]
        refine wpAnyH_take (i := 2) (oi := { dst := some 29, op := Op.move (Operand.tmp 5), type := 3, pos := "ref.go:152", after := #[], guard := none }) (v := ?_) rfl (by kernel_rfl) (by kernel_rfl) (by kernel_rfl) (fun _ _ _ h => h) (Or.inl ⟨by rfl, ?hyr3x2⟩) (by assumption) ?restr3x2
        case hyr3x2 => intro wq hSw; (go_simp); (try with_reducible rfl)
        try simp only [Act.put, List.setIfInBounds_toArray, List.set_cons_zero, List.set_cons_succ]
        refine wpAnyH_take (i := 3) (oi := { dst := some 30, op := Op.indexAddr 44 (Operand.tmp 28) (Operand.tmp 29), type := 0, pos := "ref.go:152", after := #[{ on := 1, ground := Ground.data }, { on := 2, ground := Ground.data }], guard := none }) (v := ?_) rfl (by kernel_rfl) (by kernel_rfl) (by kernel_rfl) (fun _ _ _ h => h) (Or.inl ⟨by rfl, ?hyr3x3⟩) (by assumption) ?restr3x3
        case hyr3x3 => intro wq hSw; (go_simp); (try with_reducible rfl)
        try simp only [Act.put, List.setIfInBounds_toArray, List.set_cons_zero, List.set_cons_succ]
        refine wpAnyH_take (i := 4) (oi := { dst := some 31, op := Op.fieldAddr 76 (Operand.tmp 30) 0, type := 0, pos := "ref.go:152", after := #[{ on := 3, ground := Ground.data }], guard := none }) (v := ?_) rfl (by kernel_rfl) (by kernel_rfl) (by kernel_rfl) (fun _ _ _ h => h) (Or.inl ⟨by rfl, ?hyr3x4⟩) (by assumption) ?restr3x4
        case hyr3x4 => intro wq hSw; (go_simp); (try with_reducible rfl)
        try simp only [Act.put, List.setIfInBounds_toArray, List.set_cons_zero, List.set_cons_succ]
        refine wpAnyH_take (i := 5) (oi := { dst := some 32, op := Op.load 3 (Operand.tmp 31), type := 3, pos := "ref.go:152", after := #[{ on := 4, ground := Ground.data }], guard := none }) (v := ?_) rfl (by kernel_rfl) (by kernel_rfl) (by kernel_rfl) (fun _ _ _ h => h) (Or.inl ⟨by rfl, ?hyr3x5⟩) (by assumption) ?restr3x5
        case hyr3x5 => intro wq hSw; (have cq := Chg.cellv hSw e0 hx1; go_simp); (try with_reducible rfl)
        try simp only [Act.put, List.setIfInBounds_toArray, List.set_cons_zero, List.set_cons_succ]
        refine wpAnyH_take (i := 7) (oi := { dst := some 34, op := Op.move (Operand.tmp 0), type := 44, pos := "ref.go:152", after := #[], guard := none }) (v := ?_) rfl (by kernel_rfl) (by kernel_rfl) (by kernel_rfl) (fun _ _ _ h => h) (Or.inl ⟨by rfl, ?hyr3x7⟩) (by assumption) ?restr3x7
        case hyr3x7 => intro wq hSw; (go_simp); (try with_reducible rfl)
        try simp only [Act.put, List.setIfInBounds_toArray, List.set_cons_zero, List.set_cons_succ]
        refine wpAnyH_take (i := 8) (oi := { dst := some 35, op := Op.move (Operand.tmp 5), type := 3, pos := "ref.go:152", after := #[], guard := none }) (v := ?_) rfl (by kernel_rfl) (by kernel_rfl) (by kernel_rfl) (fun _ _ _ h => h) (Or.inl ⟨by rfl, ?hyr3x8⟩) (by assumption) ?restr3x8
        case hyr3x8 => intro wq hSw; (go_simp); (try with_reducible rfl)
        try simp only [Act.put, List.setIfInBounds_toArray, List.set_cons_zero, List.set_cons_succ]
        refine wpAnyH_take (i := 9) (oi := { dst := some 36, op := Op.indexAddr 44 (Operand.tmp 34) (Operand.tmp 35), type := 0, pos := "ref.go:152", after := #[{ on := 7, ground := Ground.data }, { on := 8, ground := Ground.data }], guard := none }) (v := ?_) rfl (by kernel_rfl) (by kernel_rfl) (by kernel_rfl) (fun _ _ _ h => h) (Or.inl ⟨by rfl, ?hyr3x9⟩) (by assumption) ?restr3x9
        case hyr3x9 => intro wq hSw; (go_simp); (try with_reducible rfl)
        try simp only [Act.put, List.setIfInBounds_toArray, List.set_cons_zero, List.set_cons_succ]
        refine wpAnyH_take (i := 10) (oi := { dst := some 37, op := Op.fieldAddr 76 (Operand.tmp 36) 1, type := 0, pos := "ref.go:152", after := #[{ on := 9, ground := Ground.data }], guard := none }) (v := ?_) rfl (by kernel_rfl) (by kernel_rfl) (by kernel_rfl) (fun _ _ _ h => h) (Or.inl ⟨by rfl, ?hyr3x10⟩) (by assumption) ?restr3x10
        case hyr3x10 => intro wq hSw; (go_simp); (try with_reducible rfl)
        try simp only [Act.put, List.setIfInBounds_toArray, List.set_cons_zero, List.set_cons_succ]
        refine wpAnyH_take (i := 11) (oi := { dst := some 38, op := Op.load 74 (Operand.tmp 37), type := 74, pos := "ref.go:152", after := #[{ on := 10, ground := Ground.data }], guard := none }) (v := ?_) rfl (by kernel_rfl) (by kernel_rfl) (by kernel_rfl) (fun _ _ _ h => h) (Or.inl ⟨by rfl, ?hyr3x11⟩) (by assumption) ?restr3x11
        case hyr3x11 => intro wq hSw; (have cq := Chg.cellv hSw e1 hx1; go_simp); (try with_reducible rfl)
        try simp only [Act.put, List.setIfInBounds_toArray, List.set_cons_zero, List.set_cons_succ]
        refine wpAnyH_take (i := 12) (oi := { dst := some 39, op := Op.call { callee := Callee.builtin Builtin.len, args := #[Operand.tmp 38], argTypes := #[74] }, type := 3, pos := "ref.go:152", after := #[{ on := 11, ground := Ground.data }], guard := none }) (v := ?_) rfl (by kernel_rfl) (by kernel_rfl) (by kernel_rfl) (fun _ _ _ h => h) (Or.inl ⟨by rfl, ?hyr3x12⟩) (by assumption) ?restr3x12
        case hyr3x12 => intro wq hSw; (go_simp); (try with_reducible rfl)
        try simp only [Act.put, List.setIfInBounds_toArray, List.set_cons_zero, List.set_cons_succ]
        refine wpAnyH_take (i := 13) (oi := { dst := some 40, op := Op.convert 3 31 (Operand.tmp 39), type := 31, pos := "ref.go:152", after := #[{ on := 12, ground := Ground.data }], guard := none }) (v := ?_) rfl (by kernel_rfl) (by kernel_rfl) (by kernel_rfl) (fun _ _ _ h => h) (Or.inl ⟨by rfl, ?hyr3x13⟩) (by assumption) ?restr3x13
        case hyr3x13 => intro wq hSw; (go_simp); (try with_reducible rfl)
        try simp only [Act.put, List.setIfInBounds_toArray, List.set_cons_zero, List.set_cons_succ]
        refine wpAnyH_ready (rs := [6]) (by kernel_rfl) (by simp) ?_
        refine AllReadyH.cons (o := { dst := some 33, op := Op.call { callee := Callee.value (Operand.func 42), args := #[Operand.tmp 27, Operand.tmp 32], argTypes := #[23, 2] }, type := 23, pos := "ref.go:152", after := #[{ on := 0, ground := Ground.data }, { on := 5, ground := Ground.data }], guard := none }) rfl (fun K hK => ?_) AllReadyH.nil
        go_simp
        (with_reducible refine (appint_r _ _ _ bs _ _ (s3.out.nx (Ex.refl w2).drew) (by omega) NIL3.out i1 i1x).mono ?_)
        rintro e w4 ⟨v4, rfl, own4, k4⟩
        obtain ⟨b4, hb4⟩ : ∃ b4, b4 = bs ++ encU (zig c.1) := ⟨_, rfl⟩
        rw [← hb4] at own4
        have n4 : b4.length ≤ 100000 := by rw [hb4, List.length_append]; omega
        have n4' : b4.length ≤ 20 + 400 * k := by rw [hb4, List.length_append]; omega
        have HB4 := Lib.hid hb4
        clear hb4
        obtain ⟨a4, c4, rfl, s4, _, _, nil4⟩ := own4.slf (fun _ => rfl)
        have e1 := Chg.cellv k4 e1 hx1
        have hx4 : x1 < w4.heap.size := Nat.lt_of_lt_of_le hx1 k4.size
        have s4 := Lib.hid s4.sl
        have NIL4 := Lib.hid nil4
        clear own4 nil4
        refine hK.out _ _ k4 (fun _ => ?_)
        clear hK K
        try simp only [Act.put, List.setIfInBounds_toArray, List.set_cons_zero, List.set_cons_succ]
        refine wpAnyH_switch (S' := Ex w4) (fun _ hSw => Ex.nx k4 hSw) ?_
        clear hHeld
        have hHeld := Ex.refl w4
        refine wpAnyH_ready (rs := [14]) (by kernel_rfl) (by simp) ?_
        refine AllReadyH.cons (o := { dst := some 41, op := Op.call { callee := Callee.value (Operand.func 11), args := #[Operand.tmp 33, Operand.tmp 40], argTypes := #[23, 31] }, type := 23, pos := "ref.go:152", after := #[{ on := 6, ground := Ground.data }, { on := 13, ground := Ground.data }, { on := 6, ground := Ground.chain }], guard := none }) rfl (fun K hK => ?_) AllReadyH.nil
        go_simp
        (with_reducible refine (appuint_r _ _ _ _ n' _ s4.out (by omega) NIL4.out (by omega)).mono ?_)
        rintro e w3 ⟨v6, rfl, own6, k6⟩
        obtain ⟨b6, hb6⟩ : ∃ b6, b6 = b4 ++ encU n' := ⟨_, rfl⟩
        rw [← hb6] at own6
        have n6 : b6.length ≤ 30 + 400 * k := by rw [hb6, List.length_append]; omega
        have HB6 := Lib.hid hb6
        clear hb6
        have e1 := Chg.cellv k6 e1 hx4
        refine hK.out _ _ k6 (fun _ => ?_)
        clear hK K
        try simp only [Act.put, List.setIfInBounds_toArray, List.set_cons_zero, List.set_cons_succ]
        refine wpAnyH_switch (S' := Ex w3) (fun _ hSw => Ex.nx k6 hSw) ?_
        clear hHeld
        have hHeld := Ex.refl w3
        refine wpAnyH_take (i := 15) (oi := { dst := some 4, op := Op.assign (Operand.tmp 41), type := 23, pos := "ref.go:152", after := #[{ on := 14, ground := Ground.data }, { on := 14, ground := Ground.chain }, { on := 0, ground := Ground.phase }, { on := 1, ground := Ground.phase }, { on := 2, ground := Ground.phase }, { on := 3, ground := Ground.phase }, { on := 4, ground := Ground.phase }, { on := 5, ground := Ground.phase }, { on := 6, ground := Ground.phase }, { on := 7, ground := Ground.phase }, { on := 8, ground := Ground.phase }, { on := 9, ground := Ground.phase }, { on := 10, ground := Ground.phase }, { on := 11, ground := Ground.phase }, { on := 12, ground := Ground.phase }, { on := 13, ground := Ground.phase }, { on := 14, ground := Ground.phase }], guard := none }) (v := ?_) rfl (by kernel_rfl) (by kernel_rfl) (by kernel_rfl) (fun _ _ _ h => h) (Or.inl ⟨by rfl, ?hyr3x15⟩) (by assumption) ?restr3x15
        case hyr3x15 => intro wq hSw; (go_simp); (try with_reducible rfl)
        try simp only [Act.put, List.setIfInBounds_toArray, List.set_cons_zero, List.set_cons_succ]
        refine wpAnyH_done (by kernel_rfl) ?_ _
        have kw3 := ((KW.out.nx (Ex.refl w2).drew).nx k4).nx k6
        have hx1 : x1 < w3.heap.size := Nat.lt_of_lt_of_le hx4 k6.size
        have R3 := Lib.hid (((R1.out.nx (Ex.refl w2).drew).nx k4).nx k6)
        have z5 : w.heap.size ≤ w4.heap.size := ((KW.out.nx (Ex.refl w2).drew).nx k4).size
        have own6 : OwnL 1 encB 5 w.heap.size w3 v6 (b6 ++ (c.2.take 0).flatMap encLv) := by simpa using own6.base z5
        have KW3 := Lib.hid kw3
        have z3 := kw3.size
        clear k4 k6 s3 s4 NIL3 NIL4 n4 n4' e0 z5 kw kw3
        go_wp2_with fail
        go_loopw [4, 6] (fun o i wr => EncVRel c.2 b6 n' w.heap.size w3 o i wr) (fun _ i _ => n' - (intOf i).toNat)
        case atStart => exact ⟨0, by omega, rfl, own6, Ex.refl _⟩
        case round =>
          clear own6
          obtain ⟨j, hj, rfl, own, kv⟩ := hrel
          obtain ⟨wi, rfl⟩ : ∃ wi : World, wi = wr := ⟨_, rfl⟩
          have e1w := Chg.cellv kv e1 hx1
          by_cases hjl : j < n'
          · obtain ⟨x5, o5, y, rfl, hx5, hy, hc5⟩ := (R3.out.nx kv).at hjl
            have f0 : wi.cell? ⟨x5, o5 + j * 2, none⟩ = some (.int .i64 y.1) := hc5 0 _ rfl
            have f1 : wi.cell? ⟨x5, o5 + j * 2 + 1, none⟩ = some (.int .i64 y.2) := hc5 1 _ rfl
            obtain ⟨⟨j1, j2⟩, j3, j4⟩ := I2.out y (List.mem_of_getElem? hy)
            have FV := Lib.hid (flat_snoc encLv c.2 j y hy)
            have hvl := enclv_take_le c.2 j
            have hj17 : j ≤ 17 := by omega
            clear hc5 hy
            obtain ⟨w5, rfl⟩ : ∃ w5 : World, w5 = wi := ⟨_, rfl⟩
            have e1i := Chg.cellv kv e1 hx1
            have hx1i : x1 < w5.heap.size := Nat.lt_of_lt_of_le hx1 kv.size
            obtain ⟨a3, c3, rfl, s3, _, _, nil3⟩ := own.slf (fun _ => rfl)
            obtain ⟨bs3, hbs3⟩ : ∃ bs3, bs3 = b6 ++ (c.2.take j).flatMap encLv := ⟨_, rfl⟩
            have hl3 : bs3.length ≤ 100000 := by rw [hbs3, List.length_append]; omega
            rw [← hbs3] at own s3 ⊢
            have HBS3 := Lib.hid hbs3
            have s3 := Lib.hid s3.sl
            have NIL3 := Lib.hid nil3
            have l1 := encU_length (zig y.1)
            have KV := Lib.hid kv
            clear own hbs3 nil3 hvl kv
            go_wp2_with fail
            refine wp_region_held_drew (S := Ex w5.drew) (by kernel_rfl) (Ex.refl _) (fun hHeld => ?_)
            refine wpAnyH_take (i := 0) (oi := { dst := some 52, op := Op.move (Operand.tmp 4), type := 23, pos := "ref.go:154", after := #[], guard := none }) (v := ?_) rfl (by kernel_rfl) (by kernel_rfl) (by kernel_rfl) (fun _ _ _ h => h) (Or.inl ⟨by rfl, ?hyr4x0⟩) (by assumption) ?restr4x0
            case hyr4x0 => intro wq hSw; (go_simp); (try with_reducible rfl)
            try simp only [Act.put, List.setIfInBounds_toArray, List.set_cons_zero, List.set_cons_succ]
            refine wpAnyH_take (i := 1) (oi := { dst := some 53, op := Op.move (Operand.tmp 0), type := 44, pos := "ref.go:154", after := #[], guard := none }) (v := ?_) rfl (by kernel_rfl) (by kernel_rfl) (by kernel_rfl) (fun _ _ _ h => h) (Or.inl ⟨by rfl, ?hyr4x1⟩) (by assumption) ?restr4x1
            case hyr4x1 => intro wq hSw; (go_simp); (try with_reducible rfl)
            try simp only [Act.put, List.setIfInBounds_toArray, List.set_cons_zero, List.set_cons_succ]
            refine wpAnyH_take (i := 2) (oi := { dst := some 54, op := Op.move (Operand.tmp 5), type := 3, pos := "ref.go:154", after := #[], guard := none }) (v := ?_) rfl (by kernel_rfl) (by kernel_rfl) (by kernel_rfl) (fun _ _ _ h => h) (Or.inl ⟨by rfl, ?hyr4x2⟩) (by assumption) ?restr4x2
            case hyr4x2 => intro wq hSw; (go_simp); (try with_reducible rfl)
            try simp only [Act.put, List.setIfInBounds_toArray, List.set_cons_zero, List.set_cons_succ]
            refine wpAnyH_take (i := 3) (oi := { dst := some 55, op := Op.indexAddr 44 (Operand.tmp 53) (Operand.tmp 54), type := 0, pos := "ref.go:154", after := #[{ on := 1, ground := Ground.data }, { on := 2, ground := Ground.data }], guard := none }) (v := ?_) rfl (by kernel_rfl) (by kernel_rfl) (by kernel_rfl) (fun _ _ _ h => h) (Or.inl ⟨by rfl, ?hyr4x3⟩) (by assumption) ?restr4x3
            case hyr4x3 => intro wq hSw; (go_simp); (try with_reducible rfl)
            try simp only [Act.put, List.setIfInBounds_toArray, List.set_cons_zero, List.set_cons_succ]
            refine wpAnyH_take (i := 4) (oi := { dst := some 56, op := Op.fieldAddr 76 (Operand.tmp 55) 1, type := 0, pos := "ref.go:154", after := #[{ on := 3, ground := Ground.data }], guard := none }) (v := ?_) rfl (by kernel_rfl) (by kernel_rfl) (by kernel_rfl) (fun _ _ _ h => h) (Or.inl ⟨by rfl, ?hyr4x4⟩) (by assumption) ?restr4x4
            case hyr4x4 => intro wq hSw; (go_simp); (try with_reducible rfl)
            try simp only [Act.put, List.setIfInBounds_toArray, List.set_cons_zero, List.set_cons_succ]
            refine wpAnyH_take (i := 5) (oi := { dst := some 57, op := Op.load 74 (Operand.tmp 56), type := 74, pos := "ref.go:154", after := #[{ on := 4, ground := Ground.data }], guard := none }) (v := ?_) rfl (by kernel_rfl) (by kernel_rfl) (by kernel_rfl) (fun _ _ _ h => h) (Or.inl ⟨by rfl, ?hyr4x5⟩) (by assumption) ?restr4x5
            case hyr4x5 => intro wq hSw; (have cq := Chg.cellv hSw e1i hx1i; go_simp); (try with_reducible rfl)
            try simp only [Act.put, List.setIfInBounds_toArray, List.set_cons_zero, List.set_cons_succ]
            refine wpAnyH_take (i := 6) (oi := { dst := some 58, op := Op.move (Operand.tmp 6), type := 3, pos := "ref.go:154", after := #[], guard := none }) (v := ?_) rfl (by kernel_rfl) (by kernel_rfl) (by kernel_rfl) (fun _ _ _ h => h) (Or.inl ⟨by rfl, ?hyr4x6⟩) (by assumption) ?restr4x6
            case hyr4x6 => intro wq hSw; (go_simp); (try with_reducible rfl)
            try simp only [Act.put, List.setIfInBounds_toArray, List.set_cons_zero, List.set_cons_succ]
            refine wpAnyH_take (i := 7) (oi := { dst := some 59, op := Op.indexAddr 74 (Operand.tmp 57) (Operand.tmp 58), type := 0, pos := "ref.go:154", after := #[{ on := 5, ground := Ground.data }, { on := 6, ground := Ground.data }], guard := none }) (v := ?_) rfl (by kernel_rfl) (by kernel_rfl) (by kernel_rfl) (fun _ _ _ h => h) (Or.inl ⟨by rfl, ?hyr4x7⟩) (by assumption) ?restr4x7
            case hyr4x7 => intro wq hSw; (go_simp); (try with_reducible rfl)
            try simp only [Act.put, List.setIfInBounds_toArray, List.set_cons_zero, List.set_cons_succ]
            refine wpAnyH_take (i := 8) (oi := { dst := some 60, op := Op.fieldAddr 73 (Operand.tmp 59) 0, type := 0, pos := "ref.go:154", after := #[{ on := 7, ground := Ground.data }], guard := none }) (v := ?_) rfl (by kernel_rfl) (by kernel_rfl) (by kernel_rfl) (fun _ _ _ h => h) (Or.inl ⟨by rfl, ?hyr4x8⟩) (by assumption) ?restr4x8
            case hyr4x8 => intro wq hSw; (go_simp); (try with_reducible rfl)
            try simp only [Act.put, List.setIfInBounds_toArray, List.set_cons_zero, List.set_cons_succ]
            refine wpAnyH_take (i := 9) (oi := { dst := some 61, op := Op.load 3 (Operand.tmp 60), type := 3, pos := "ref.go:154", after := #[{ on := 8, ground := Ground.data }], guard := none }) (v := ?_) rfl (by kernel_rfl) (by kernel_rfl) (by kernel_rfl) (fun _ _ _ h => h) (Or.inl ⟨by rfl, ?hyr4x9⟩) (by assumption) ?restr4x9
            case hyr4x9 => intro wq hSw; (have cq := Chg.cellv hSw f0 hx5; go_simp); (try with_reducible rfl)
            try simp only [Act.put, List.setIfInBounds_toArray, List.set_cons_zero, List.set_cons_succ]
            refine wpAnyH_take (i := 11) (oi := { dst := some 63, op := Op.move (Operand.tmp 0), type := 44, pos := "ref.go:154", after := #[], guard := none }) (v := ?_) rfl (by kernel_rfl) (by kernel_rfl) (by kernel_rfl) (fun _ _ _ h => h) (Or.inl ⟨by rfl, ?hyr4x11⟩) (by assumption) ?restr4x11
            case hyr4x11 => intro wq hSw; (go_simp); (try with_reducible rfl)
            try simp only [Act.put, List.setIfInBounds_toArray, List.set_cons_zero, List.set_cons_succ]
            refine wpAnyH_take (i := 12) (oi := { dst := some 64, op := Op.move (Operand.tmp 5), type := 3, pos := "ref.go:154", after := #[], guard := none }) (v := ?_) rfl (by kernel_rfl) (by kernel_rfl) (by kernel_rfl) (fun _ _ _ h => h) (Or.inl ⟨by rfl, ?hyr4x12⟩) (by assumption) ?restr4x12
            case hyr4x12 => intro wq hSw; (go_simp); (try with_reducible rfl)
            try simp only [Act.put, List.setIfInBounds_toArray, List.set_cons_zero, List.set_cons_succ]
            refine wpAnyH_take (i := 13) (oi := { dst := some 65, op := Op.indexAddr 44 (Operand.tmp 63) (Operand.tmp 64), type := 0, pos := "ref.go:154", after := #[{ on := 11, ground := Ground.data }, { on := 12, ground := Ground.data }], guard := none }) (v := ?_) rfl (by kernel_rfl) (by kernel_rfl) (by kernel_rfl) (fun _ _ _ h => h) (Or.inl ⟨by rfl, ?hyr4x13⟩) (by assumption) ?restr4x13
            case hyr4x13 => intro wq hSw; (go_simp); (try with_reducible rfl)
            try simp only [Act.put, List.setIfInBounds_toArray, List.set_cons_zero, List.set_cons_succ]
            refine wpAnyH_take (i := 14) (oi := { dst := some 66, op := Op.fieldAddr 76 (Operand.tmp 65) 1, type := 0, pos := "ref.go:154", after := #[{ on := 13, ground := Ground.data }], guard := none }) (v := ?_) rfl (by kernel_rfl) (by kernel_rfl) (by kernel_rfl) (fun _ _ _ h => h) (Or.inl ⟨by rfl, ?hyr4x14⟩) (by assumption) ?restr4x14
            case hyr4x14 => intro wq hSw; (go_simp); (try with_reducible rfl)
            try simp only [Act.put, List.setIfInBounds_toArray, List.set_cons_zero, List.set_cons_succ]
            refine wpAnyH_take (i := 15) (oi := { dst := some 67, op := Op.load 74 (Operand.tmp 66), type := 74, pos := "ref.go:154", after := #[{ on := 14, ground := Ground.data }], guard := none }) (v := ?_) rfl (by kernel_rfl) (by kernel_rfl) (by kernel_rfl) (fun _ _ _ h => h) (Or.inl ⟨by rfl, ?hyr4x15⟩) (by assumption) ?restr4x15
            case hyr4x15 => intro wq hSw; (have cq := Chg.cellv hSw e1i hx1i; go_simp); (try with_reducible rfl)
            try simp only [Act.put, List.setIfInBounds_toArray, List.set_cons_zero, List.set_cons_succ]
            refine wpAnyH_take (i := 16) (oi := { dst := some 68, op := Op.move (Operand.tmp 6), type := 3, pos := "ref.go:154", after := #[], guard := none }) (v := ?_) rfl (by kernel_rfl) (by kernel_rfl) (by kernel_rfl) (fun _ _ _ h => h) (Or.inl ⟨by rfl, ?hyr4x16⟩) (by assumption) ?restr4x16
            case hyr4x16 => intro wq hSw; (go_simp); (try with_reducible rfl)
            try simp only [Act.put, List.setIfInBounds_toArray, List.set_cons_zero, List.set_cons_succ]
            refine wpAnyH_take (i := 17) (oi := { dst := some 69, op := Op.indexAddr 74 (Operand.tmp 67) (Operand.tmp 68), type := 0, pos := "ref.go:154", after := #[{ on := 15, ground := Ground.data }, { on := 16, ground := Ground.data }], guard := none }) (v := ?_) rfl (by kernel_rfl) (by kernel_rfl) (by kernel_rfl) (fun _ _ _ h => h) (Or.inl ⟨by rfl, ?hyr4x17⟩) (by assumption) ?restr4x17
            case hyr4x17 => intro wq hSw; (go_simp); (try with_reducible rfl)
            try simp only [Act.put, List.setIfInBounds_toArray, List.set_cons_zero, List.set_cons_succ]
            refine wpAnyH_take (i := 18) (oi := { dst := some 70, op := Op.fieldAddr 73 (Operand.tmp 69) 1, type := 0, pos := "ref.go:154", after := #[{ on := 17, ground := Ground.data }], guard := none }) (v := ?_) rfl (by kernel_rfl) (by kernel_rfl) (by kernel_rfl) (fun _ _ _ h => h) (Or.inl ⟨by rfl, ?hyr4x18⟩) (by assumption) ?restr4x18
            case hyr4x18 => intro wq hSw; (go_simp); (try with_reducible rfl)
            try simp only [Act.put, List.setIfInBounds_toArray, List.set_cons_zero, List.set_cons_succ]
            refine wpAnyH_take (i := 19) (oi := { dst := some 71, op := Op.load 3 (Operand.tmp 70), type := 3, pos := "ref.go:154", after := #[{ on := 18, ground := Ground.data }], guard := none }) (v := ?_) rfl (by kernel_rfl) (by kernel_rfl) (by kernel_rfl) (fun _ _ _ h => h) (Or.inl ⟨by rfl, ?hyr4x19⟩) (by assumption) ?restr4x19
            case hyr4x19 => intro wq hSw; (have cq := Chg.cellv hSw f1 hx5; go_simp); (try with_reducible rfl)
            try simp only [Act.put, List.setIfInBounds_toArray, List.set_cons_zero, List.set_cons_succ]
            refine wpAnyH_ready (rs := [10]) (by kernel_rfl) (by simp) ?_
            refine AllReadyH.cons (o := { dst := some 62, op := Op.call { callee := Callee.value (Operand.func 42), args := #[Operand.tmp 52, Operand.tmp 61], argTypes := #[23, 2] }, type := 23, pos := "ref.go:154", after := #[{ on := 0, ground := Ground.data }, { on := 9, ground := Ground.data }], guard := none }) rfl (fun K hK => ?_) AllReadyH.nil
            go_simp
            (with_reducible refine (appint_r _ _ _ bs3 _ _ (s3.out.nx (Ex.refl w5).drew) (by omega) NIL3.out j1 j2).mono ?_)
            rintro e w6 ⟨v4, rfl, own4, k6⟩
            obtain ⟨b7, hb7⟩ : ∃ b7, b7 = bs3 ++ encU (zig y.1) := ⟨_, rfl⟩
            rw [← hb7] at own4
            have n7 : b7.length ≤ 200000 := by rw [hb7, List.length_append]; omega
            have HB7 := Lib.hid hb7
            clear hb7
            obtain ⟨a4, c4, rfl, s4, _, _, nil4⟩ := own4.slf (fun _ => rfl)
            have f1 := Chg.cellv k6 f1 hx5
            have hx5 : x5 < w6.heap.size := Nat.lt_of_lt_of_le hx5 k6.size
            have s4 := Lib.hid s4.sl
            have NIL4 := Lib.hid nil4
            clear own4 nil4
            have e1i := Chg.cellv k6 e1i hx1i
            have hx1i : x1 < w6.heap.size := Nat.lt_of_lt_of_le hx1i k6.size
            refine hK.out _ _ k6 (fun _ => ?_)
            clear hK K
            try simp only [Act.put, List.setIfInBounds_toArray, List.set_cons_zero, List.set_cons_succ]
            refine wpAnyH_switch (S' := Ex w6) (fun _ hSw => Ex.nx k6 hSw) ?_
            clear hHeld
            have hHeld := Ex.refl w6
            refine wpAnyH_ready (rs := [20]) (by kernel_rfl) (by simp) ?_
            refine AllReadyH.cons (o := { dst := some 72, op := Op.call { callee := Callee.value (Operand.func 42), args := #[Operand.tmp 62, Operand.tmp 71], argTypes := #[23, 2] }, type := 23, pos := "ref.go:154", after := #[{ on := 10, ground := Ground.data }, { on := 19, ground := Ground.data }, { on := 10, ground := Ground.chain }], guard := none }) rfl (fun K hK => ?_) AllReadyH.nil
            go_simp
            (with_reducible refine (appint_r _ _ _ _ _ _ s4.out n7 NIL4.out j3 j4).mono ?_)
            rintro e w7 ⟨v7, rfl, own7, k7⟩
            refine hK.out _ _ k7 (fun _ => ?_)
            clear hK K
            try simp only [Act.put, List.setIfInBounds_toArray, List.set_cons_zero, List.set_cons_succ]
            refine wpAnyH_switch (S' := Ex w7) (fun _ hSw => Ex.nx k7 hSw) ?_
            clear hHeld
            have hHeld := Ex.refl w7
            refine wpAnyH_take (i := 21) (oi := { dst := some 4, op := Op.assign (Operand.tmp 72), type := 23, pos := "ref.go:154", after := #[{ on := 20, ground := Ground.data }, { on := 20, ground := Ground.chain }, { on := 0, ground := Ground.phase }, { on := 1, ground := Ground.phase }, { on := 2, ground := Ground.phase }, { on := 3, ground := Ground.phase }, { on := 4, ground := Ground.phase }, { on := 5, ground := Ground.phase }, { on := 6, ground := Ground.phase }, { on := 7, ground := Ground.phase }, { on := 8, ground := Ground.phase }, { on := 9, ground := Ground.phase }, { on := 10, ground := Ground.phase }, { on := 11, ground := Ground.phase }, { on := 12, ground := Ground.phase }, { on := 13, ground := Ground.phase }, { on := 14, ground := Ground.phase }, { on := 15, ground := Ground.phase }, { on := 16, ground := Ground.phase }, { on := 17, ground := Ground.phase }, { on := 18, ground := Ground.phase }, { on := 19, ground := Ground.phase }, { on := 20, ground := Ground.phase }], guard := none }) (v := ?_) rfl (by kernel_rfl) (by kernel_rfl) (by kernel_rfl) (fun _ _ _ h => h) (Or.inl ⟨by rfl, ?hyr4x21⟩) (by assumption) ?restr4x21
            case hyr4x21 => intro wq hSw; (go_simp); (try with_reducible rfl)
            try simp only [Act.put, List.setIfInBounds_toArray, List.set_cons_zero, List.set_cons_succ]
            refine wpAnyH_done (by kernel_rfl) ?_ _
            have kv7 := ((KV.out.nx (Ex.refl w5).drew).nx k6).nx k7
            have z6 : w.heap.size ≤ w6.heap.size := Nat.le_trans z3 ((KV.out.nx (Ex.refl w5).drew).nx k6).size
            clear k6 k7 s3 s4 NIL3 NIL4 n7 f0 f1
            go_wp2_with fail
            refine ⟨⟨j + 1, by omega, by go_num, ?_, kv7⟩, by simp [intOf]; omega⟩
            rw [FV.out, ← List.append_assoc, ← HBS3.out]
            unfold encLv
            rw [← List.append_assoc, ← HB7.out]
            exact own7.base z6
          · obtain rfl : j = n' := by omega
            rw [List.take_of_length_le (by rw [hcn.out]; exact Nat.le_refl _)] at own
            have kw7 := KW3.out.nx kv
            obtain ⟨a3, c3, rfl, _⟩ := own.slf (fun _ => rfl)
            clear hj hjl kv
            go_wp2_with fail
            refine ⟨⟨k + 1, by omega, by go_num, ?_, kw7, fun j z hj hz => ?_⟩, by simp [intOf]; omega⟩
            · rw [FSn.out, ← List.append_assoc, ← HBS.out]
              unfold encLk
              rw [hcn.out, ← List.append_assoc, ← List.append_assoc, ← HB4.out, ← HB6.out]
              exact own
            · rcases Nat.lt_or_ge j k with h | h
              · exact HSH.out j z h hz
              · obtain rfl : j = k := by omega
                rw [Option.some.inj (hz.symm.trans HY.out), hcn.out]
                exact hkey'
    · obtain rfl : k = n := by omega
      rw [List.take_of_length_le (by rw [HL.out]; exact Nat.le_refl _)] at own
      have HE : Hid (encLks L = (encU k ++ L.flatMap encLk, 0)) := Lib.hid (by
        unfold encLks
        rw [if_neg (by rw [HL.out]; exact h64), if_neg, HL.out]
        rw [List.any_eq_true]
        rintro ⟨z, hz, hk⟩
        obtain ⟨j, hj, he⟩ := List.mem_iff_getElem.1 hz
        have := HSH.out j z (by rw [← HL.out]; exact hj) (by rw [← he]; simp)
        simp at hk
        omega)
      obtain ⟨a3, c3, rfl, _⟩ := own.slf (fun _ => rfl)
      clear hk hlt
      go_wp2_with fail
      go_ret2
      rw [HE.out]
      exact ⟨_, rfl, own, kw⟩
end Go.Proofs.YtjaemckdfoaopaaDoor
