/- The walk over StampCodes. -/
import Derived.Test.YtgpoikklnbmpkaaStampD
import Derived.Test.YtgpoikklnbmpkaaStampB
import Derived.Test.YtgpoikklnbmpkaaTStamp
import Derived.Test.YtgpoikklnbmpkaaAwake
import Derived.Test.YtgpoikklnbmpkaaTapeBool
import Derived.Laws.BytesString
import Derived.Deep.DeepCutAuto
namespace Go.Proofs.Ytgpoikklnbmpkaa
open Go.RowKit

theorem Blk.cell2 {w : World} {g : Nat} {x y : Value} {ty : TypeId} (h : Blk w g [x, y] ty) : w.cell? ⟨g, 0, none⟩ = some x ∧ w.cell? ⟨g, 1, none⟩ = some y := ⟨h.cell 0 x rfl, h.cell 1 y rfl⟩
/-- some stamp of the tape -/
def StampPost (b : Nat) (w : World) (e : Ending) (w' : World) : Prop := ∃ x y : Int, e = .returned (.agg #[.int .i64 x, .int .i64 y]) ∧ TK w' b ∧ Exb b w w'
theorem stamp_t {b : Nat} (w : World) (h : TK w b) : Calls Try.prog 11 #[.pointer (some ⟨b, 0, none⟩)] w (StampPost b w) :=
  (stamp_x w h h.lt).mono fun e w' ⟨x, y, he, _, _, _, _, k, t⟩ => ⟨x, y, he, t, k⟩
theorem odd_t {b : Nat} (w : World) (h : TK w b) : Calls Try.prog 10 #[.pointer (some ⟨b, 0, none⟩)] w (StampPost b w) :=
  (odd_x w h h.lt).mono fun e w' ⟨x, y, he, _, _, _, _, k, t⟩ => ⟨x, y, he, t, k⟩

def encQ (q : Option Addr × Nat × Nat × List UInt8) : List Value := [.slice q.1 q.2.1 q.2.2.1]
def InRel (w : World) (i : Value) (wr : World) : Prop := ∃ k : Nat, k ≤ 4 ∧ i = .int .i64 k ∧ Ex w wr
def GoodQ (w : World) (q : Option Addr × Nat × Nat × List UInt8) : Prop := Sl 1 encB w q.1 q.2.1 q.2.2.2 ∧ q.2.1 ≤ 200000 ∧ q.2.1 ≤ q.2.2.1 ∧ q.2.2.1 ≤ maxLen
theorem mkGood {w : World} {a : Option Addr} {n c : Nat} {l : List UInt8} (h : Sl 1 encB w a n l) (h1 : n ≤ 200000) (h2 : n ≤ c) (h3 : c ≤ maxLen) : GoodQ w (a, n, c, l) := ⟨h, h1, h2, h3⟩
theorem good4 {w : World} (q1 q2 q3 q4 : Option Addr × Nat × Nat × List UInt8) (h1 : GoodQ w q1) (h2 : GoodQ w q2) (h3 : GoodQ w q3) (h4 : GoodQ w q4) : ∀ q ∈ [q1, q2, q3, q4], GoodQ w q := by
  intro q hq
  simp only [List.mem_cons, List.not_mem_nil, or_false] at hq
  rcases hq with rfl | rfl | rfl | rfl
  · exact h1
  · exact h2
  · exact h3
  · exact h4
theorem own_rd {e : TypeId} {base : Nat} {w : World} {a : Option Addr} {n c : Nat} {l : List UInt8} (h : OwnL 1 encB e base w (.slice a n c) l) : Sl 1 encB w a n l ∧ n ≤ c ∧ c ≤ maxLen ∧ n = l.length := by
  obtain ⟨a', c', e1, h1, h2, h3, _⟩ := h.rd (fun _ => rfl)
  cases e1
  exact ⟨Rd.mono h1 (fun _ hk => hk.2), h2, h3, rfl⟩
def CodRel (b : Nat) (w : World) (i : Value) (wr : World) : Prop := ∃ k : Nat, k ≤ 3 ∧ i = .int .i64 k ∧ Exb b w wr ∧ TK wr b

set_option maxRecDepth 100000 in
set_option maxHeartbeats 8000000 in
theorem codes_walk (a b' : Int) (a1 : Option Addr) (n1 c1 : Nat) (l1 : List UInt8) (a2 : Option Addr) (n2 c2 : Nat) (l2 : List Int) (w : World)
    (h1 : Sl 1 encB w a1 n1 l1) (hc1 : n1 ≤ c1) (hm1 : c1 ≤ maxLen) (hnil : a1 = none → c1 = 0) (h2 : Sl 1 encI w a2 n2 l2) (hc2 : n2 ≤ c2) (hm2 : c2 ≤ maxLen) :
    Calls Try.prog 7 #[.agg #[.int .i64 a, .int .i64 b'], .slice a1 n1 c1, .slice a2 n2 c2] w fun e w' => e = .returned (.bool true) ∧ Ex w w' := by
  unfold maxLen at hm1
  have HNIL := Lib.hid hnil
  clear hnil
  have B0 := Blk.new w [.int .i64 a, .int .i64 b'] 23
  have k0 := Ex.new w (.cells #[.int .i64 a, .int .i64 b'] 23)
  have s1 := h1.nx k0
  have s2 := h2.nx k0
  go_enter Try.func7, Try.ntmps7
  by_cases hbig : 200 < n1
  · have K0 := Lib.hid k0
    clear s1 s2 B0 h1 h2 k0
    go_wp2_with fail
    refine (awake_x _).mono ?_
    rintro e w2 ⟨rfl, kk⟩
    go_wp2_with fail
    go_ret
    exact ⟨rfl, K0.out.nx kk⟩
  have hn2 : n1 ≤ 200 := by omega
  clear hbig h1 h2
  obtain ⟨w0, hw0⟩ : ∃ w0, w0 = w.alloc (.cells #[.int .i64 a, .int .i64 b'] 23) := ⟨_, rfl⟩
  have B0 : Blk w0 w.heap.size [.int .i64 a, .int .i64 b'] 23 := by rw [hw0]; exact B0
  rw [← hw0] at k0 s1 s2
  have HW0 := Lib.hid hw0
  obtain ⟨gs, hgs⟩ : ∃ gs, gs = w.heap.size := ⟨_, rfl⟩
  rw [← hgs] at B0
  have HGS := Lib.hid hgs
  have hgs1 : w.heap.size ≤ gs := by omega
  clear hw0 hgs
  go_wp2_with fail
  rw [← HGS.out, ← HW0.out]
  refine (new_t _ _ _ l2 _ s2 hc2 hm2).mono ?_
  rintro e w1 ⟨rfl, T, kk, z1⟩
  obtain ⟨b, hb⟩ : ∃ b, b = w0.heap.size := ⟨_, rfl⟩
  rw [← hb] at T ⊢
  have q : Exl b w w1 := ⟨k0.nx kk, by have := k0.size; omega⟩
  have B1 := B0.nx kk
  have hgb : gs ≠ b := by have := B0.lt; omega
  have S1 : Slb 1 encB b w1 a1 n1 l1 := (Rd.chg s1 kk (fun _ hk => hk)).mono (fun x (hx : x < w0.heap.size) => ⟨Nat.lt_of_lt_of_le hx kk.size, by omega⟩)
  clear B0 s1 s2 kk hb k0
  go_wp2_with fail
  have B1 : Blk w1.drew gs [.int .i64 a, .int .i64 b'] 23 := B1
  have T : TK w1.drew b := T
  refine wp_region_held_drew (S := Exb b w1.drew) (by kernel_rfl) (Exb.refl b _) (fun hHeld => ?_)
  refine wpAnyH_take (i := 0) (oi := { dst := some 29, op := Op.load 23 (Operand.tmp 3), type := 23, pos := "law.go:79", after := #[], guard := none }) (v := ?_) rfl (by kernel_rfl) (by kernel_rfl) (by kernel_rfl) (fun _ _ _ h => h) (Or.inl ⟨by rfl, ?hyr1x0⟩) (by assumption) ?restr1x0
  case hyr1x0 => intro wq hSw; (have cq := (B1.nxb hgb hSw).cell2; go_simp); (try with_reducible rfl)
  try simp only [Act.put, List.setIfInBounds_toArray, List.set_cons_zero, List.set_cons_succ]
  refine wpAnyH_take (i := 1) (oi := { dst := some 30, op := Op.move (Operand.tmp 7), type := 27, pos := "law.go:79", after := #[], guard := none }) (v := ?_) rfl (by kernel_rfl) (by kernel_rfl) (by kernel_rfl) (fun _ _ _ h => h) (Or.inl ⟨by rfl, ?hyr1x1⟩) (by assumption) ?restr1x1
  case hyr1x1 => intro wq hSw; (go_simp); (try with_reducible rfl)
  try simp only [Act.put, List.setIfInBounds_toArray, List.set_cons_zero, List.set_cons_succ]
  refine wpAnyH_take (i := 3) (oi := { dst := some 32, op := Op.move (Operand.tmp 7), type := 27, pos := "law.go:79", after := #[], guard := none }) (v := ?_) rfl (by kernel_rfl) (by kernel_rfl) (by kernel_rfl) (fun _ _ _ h => h) (Or.inl ⟨by rfl, ?hyr1x3⟩) (by assumption) ?restr1x3
  case hyr1x3 => intro wq hSw; (go_simp); (try with_reducible rfl)
  try simp only [Act.put, List.setIfInBounds_toArray, List.set_cons_zero, List.set_cons_succ]
  refine wpAnyH_take (i := 7) (oi := { dst := some 36, op := Op.move (Operand.const (Value.int IntKind.i64 0)), type := 3, pos := "law.go:79", after := #[], guard := none }) (v := ?_) rfl (by kernel_rfl) (by kernel_rfl) (by kernel_rfl) (fun _ _ _ h => h) (Or.inl ⟨by rfl, ?hyr1x7⟩) (by assumption) ?restr1x7
  case hyr1x7 => intro wq hSw; (go_simp); (try with_reducible rfl)
  try simp only [Act.put, List.setIfInBounds_toArray, List.set_cons_zero, List.set_cons_succ]
  refine wpAnyH_ready (rs := [2]) (by kernel_rfl) (by simp) ?_
  refine AllReadyH.cons (o := { dst := some 31, op := Op.call { callee := Callee.value (Operand.func 10), args := #[Operand.tmp 30], argTypes := #[27] }, type := 23, pos := "law.go:79", after := #[{ on := 1, ground := Ground.data }], guard := none }) rfl (fun K hK => ?_) AllReadyH.nil
  go_simp
  refine (odd_t _ T).mono ?_
  clear T
  rintro e v1 ⟨x1, y1, rfl, T, j1⟩
  refine hK.out _ _ j1 (fun _ => ?_)
  clear hK K
  try simp only [Act.put, List.setIfInBounds_toArray, List.set_cons_zero, List.set_cons_succ]
  refine wpAnyH_switch (S' := Exb b v1) (fun _ hSw => Exb.nxb j1 hSw) ?_
  clear hHeld
  have hHeld := Exb.refl b v1
  refine wpAnyH_ready (rs := [4]) (by kernel_rfl) (by simp) ?_
  refine AllReadyH.cons (o := { dst := some 33, op := Op.call { callee := Callee.value (Operand.func 11), args := #[Operand.tmp 32], argTypes := #[27] }, type := 23, pos := "law.go:79", after := #[{ on := 3, ground := Ground.data }, { on := 2, ground := Ground.chain }], guard := none }) rfl (fun K hK => ?_) AllReadyH.nil
  go_simp
  refine (stamp_t _ T).mono ?_
  clear T
  rintro e v2 ⟨x2, y2, rfl, T, j2⟩
  have hb2 := T.lt
  refine hK.out _ _ j2 (fun _ => ?_)
  clear hK K
  try simp only [Act.put, List.setIfInBounds_toArray, List.set_cons_zero, List.set_cons_succ]
  refine wpAnyH_switch (S' := Exb b v2) (fun _ hSw => Exb.nxb j2 hSw) ?_
  clear hHeld
  have hHeld := Exb.refl b v2
  refine wpAnyH_ready (rs := [5]) (by kernel_rfl) (by simp) ?_
  refine AllReadyH.cons (o := { dst := some 34, op := Op.buildSlice 24 3 #[(0, Operand.tmp 29), (1, Operand.tmp 31), (2, Operand.tmp 33)], type := 24, pos := "law.go:79", after := #[{ on := 0, ground := Ground.data }, { on := 2, ground := Ground.data }, { on := 4, ground := Ground.data }], guard := none }) rfl (fun K hK => ?_) AllReadyH.nil
  go_simp
  obtain ⟨v3, hv3⟩ : ∃ v3, v3 = v2.alloc (.cells #[.int .i64 a, .int .i64 b', .int .i64 x1, .int .i64 y1, .int .i64 x2, .int .i64 y2] 23) := ⟨_, rfl⟩
  have j3 : Exb b v2 v3 := by rw [hv3]; exact (Exb.refl b v2).alloc _
  have J3 : Ex v2 v3 := by rw [hv3]; exact Ex.new v2 _
  have SL : Sl 2 encS v3 (some ⟨v2.heap.size, 0, none⟩) 3 [(a, b'), (x1, y1), (x2, y2)] := by rw [hv3]; exact Sl.lit _ rfl rfl (fun _ => rfl) rfl
  rw [← hv3]
  clear hv3
  refine hK.out _ _ j3 (fun _ => ?_)
  clear hK K
  try simp only [Act.put, List.setIfInBounds_toArray, List.set_cons_zero, List.set_cons_succ]
  refine wpAnyH_switch (S' := Exb b v3) (fun _ hSw => Exb.nxb j3 hSw) ?_
  clear hHeld
  have hHeld := Exb.refl b v3
  refine wpAnyH_take (i := 6) (oi := { dst := some 35, op := Op.call { callee := Callee.builtin Builtin.len, args := #[Operand.tmp 34], argTypes := #[24] }, type := 3, pos := "law.go:79", after := #[{ on := 5, ground := Ground.data }], guard := none }) (v := ?_) rfl (by kernel_rfl) (by kernel_rfl) (by kernel_rfl) (fun _ _ _ h => h) (Or.inl ⟨by rfl, ?hyr1x6⟩) (by assumption) ?restr1x6
  case hyr1x6 => intro wq hSw; (go_simp); (try with_reducible rfl)
  try simp only [Act.put, List.setIfInBounds_toArray, List.set_cons_zero, List.set_cons_succ]
  refine wpAnyH_done (by kernel_rfl) ?_ _
  replace T := T.nx J3
  replace q := (((Exl.nxb ⟨q.1.drew, q.2⟩ j1).nxb j2).nxb j3 : Exl b w v3)
  have S3 : Slb 1 encB b v3 a1 n1 l1 := (((Slb.nxb S1 ((Exb.refl b w1).drew)).nxb j1).nxb j2).nxb j3
  obtain ⟨gl, hgl⟩ : ∃ gl, gl = v2.heap.size := ⟨_, rfl⟩
  have hglb : gl ≠ b := by omega
  rw [← hgl] at SL ⊢
  have SLb : Slb 2 encS b v3 (some ⟨gl, 0, none⟩) 3 [(a, b'), (x1, y1), (x2, y2)] := by
    refine ⟨SL.1, ?_⟩
    rcases SL.2 with h0 | ⟨x, o, e1, e2, e3⟩
    · omega
    · exact .inr ⟨x, o, e1, ⟨e2, by cases e1; exact hglb⟩, e3⟩
  generalize [(a, b'), (x1, y1), (x2, y2)] = LS at SLb
  clear SL S1 B1 j1 j2 j3 J3 hgl hgb
  go_wp2_with fail
  go_loopw [36] (fun i wr => CodRel b v3 i wr) (fun i _ => 3 - (intOf i).toNat)
  case atStart => exact ⟨0, by omega, rfl, Exb.refl _ _, T⟩
  case round =>
    clear T
    obtain ⟨k, hk, rfl, kw, T⟩ := hrel
    obtain ⟨wo, rfl⟩ : ∃ wo : World, wo = wr := ⟨_, rfl⟩
    by_cases hlt : k < 3
    · obtain ⟨x, o, ⟨A, B⟩, hxo, hx, hy, hcell⟩ := Rd.at (SLb.nxb kw) (j := k) hlt
      cases hxo
      have c0 : wo.cell? ⟨gl, k * 2, none⟩ = some (.int .i64 A) := by simpa using hcell 0 _ rfl
      have c1' : wo.cell? ⟨gl, k * 2 + 1, none⟩ = some (.int .i64 B) := by simpa using hcell 1 _ rfl
      have S4 := S3.nxb kw
      have kn := kw.alloc (.cells #[.int .i64 A, .int .i64 B] 23)
      have BP := Blk.new wo [.int .i64 A, .int .i64 B] 23
      have ka := Ex.new wo (.cells #[.int .i64 A, .int .i64 B] 23)
      obtain ⟨gp, hgp⟩ : ∃ gp, gp = wo.heap.size := ⟨_, rfl⟩
      obtain ⟨w4, hw4⟩ : ∃ w4, w4 = wo.alloc (.cells #[.int .i64 A, .int .i64 B] 23) := ⟨_, rfl⟩
      have BP : Blk w4 gp [.int .i64 A, .int .i64 B] 23 := by rw [hw4, hgp]; exact BP
      rw [← hw4] at kn ka
      replace T := T.nx ka
      replace S4 := S4.nxb (ka.b b)
      have HW4 := Lib.hid hw4
      have HGP := Lib.hid hgp
      clear hcell hy hw4 hgp S3 SLb kw ka q
      go_wp2_with fail
      rw [← HGP.out, ← HW4.out]
      obtain ⟨p0, p1⟩ := BP.cell2
      clear c0 c1'
      go_wp2_with fail
      have HE20 := encST_len A B
      obtain ⟨EE, hEE⟩ : ∃ EE, EE = encST A B := ⟨_, rfl⟩
      have CP := enc_p A B w4
      have CR := fun w => enc_r A B w
      rw [← hEE] at HE20 CP
      simp only [← hEE] at CR
      obtain ⟨E1, err⟩ := EE
      have CP := Lib.hid CP
      have CR := Lib.hid CR
      clear hEE
      refine CP.out.mono ?_
      rintro e w5 ⟨v5, rfl, own5, kk⟩
      replace kn := kn.nxb (kk.b b)
      replace T := T.nx kk
      replace S4 := S4.nxb (kk.b b)
      replace BP := BP.nx kk
      obtain ⟨A5, N5, C5, rfl, s5, _⟩ := run_own own5
      have hb5 : b < w5.heap.size := T.lt
      obtain ⟨p0, p1⟩ := BP.cell2
      clear kk own5
      go_wp2_with fail
      refine (CR.out _).mono ?_
      rintro e w6 ⟨v6, rfl, own6, kk⟩
      replace kn := kn.nxb (kk.b b)
      replace T := T.nx kk
      replace S4 := S4.nxb (kk.b b)
      have r5 := run_later (cap := C5) s5 kk
      obtain ⟨A6, N6, C6, rfl, s6, r6, o6, m6, nil6, len6⟩ := run_own2 own6
      have hN6 : N6 ≤ 20 := by rw [len6]; exact HE20
      have NIL6 := Lib.hid nil6
      unfold maxLen at m6
      have hb6 : b < w6.heap.size := T.lt
      have s6b := s6.slb hb5
      have own0 : OwnL 1 encB 5 w6.heap.size w6 (.slice none 0 0) [] := OwnL.nil _ _ _ _ _
      have L1 := HNIL.out
      have S46 := Lib.hid S4
      have s6b6 := Lib.hid s6b
      have SZ6 := Lib.hid kn.size
      have s4s := S4.sl
      clear kk own6 s5 BP p0 p1 nil6 len6 hb5
      go_upto_region 12 with (first
        | (at_builtin; (refine wpList_append_rd (enc := encB) w6 rfl (.const (.slice none 0 0)) (.tmp 60) 46 rfl w6.heap.size 5 (.int .u8 0) 1 1 Try.underlying46 Try.infoB rfl (by omega) (by omega) _ [] own0 rfl _ A6 N6 C6 E1 s6.sl NIL6.out (fun _ => rfl) (by simp [encB, Value.oneCell']) rfl (by simp) (by omega) (Nat.le_refl _) ?_); intro v7 w7 own7 hch0 hch1; have kx : Ex w6 w7 := hch1; have own7 : OwnL 1 encB 5 w6.heap.size w7 v7 E1 := own7; have s4t := s4s.nx kx; have lx : E1.length ≤ 20 := HE20; clear hch0 hch1)
        | (at_builtin; (refine wpList_append_rd (enc := encB) w7 rfl (.tmp 61) (.tmp 62) 46 rfl w6.heap.size 5 (.int .u8 0) 1 1 Try.underlying46 Try.infoB rfl (by omega) (by omega) _ E1 own7 rfl _ a1 n1 c1 l1 s4t L1 (fun _ => rfl) (by simp [encB, Value.oneCell']) rfl (by omega) (by omega) kx.size ?_); intro v8 w8 own8 hch0 hch1; have ky : Ex w6 w8 := Chg.trans kx hch1; clear hch0 hch1))
      obtain ⟨A8, N8, C8, rfl, s8, _, o8, m8, _, len8⟩ := run_own2 (w0 := w6) own8
      replace kn := kn.nxb (ky.b b)
      replace T := T.nx ky
      replace S4 := S4.nxb (ky.b b)
      replace s6b := s6b.nxb (ky.b b)
      have k6 : Exb b w6 w8 := ky.b b
      have hLB : (E1 ++ l1).length ≤ 220 := by
        rw [List.length_append, S4.len]
        exact Nat.le_trans (Nat.add_le_add lx hn2) (by decide)
      have hN68 : N6 ≤ N8 := by rw [len8, List.length_append, ← s6b.len]; exact Nat.le_add_right _ _
      generalize E1 ++ l1 = LB at own8 hLB len8
      have LEN8 := Lib.hid len8
      clear len8 s8 kx ky own7 s4t own0 s4s r5 r6 s6
      obtain ⟨wv, rfl⟩ : ∃ wv, wv = w8 := ⟨_, rfl⟩
      by_cases h0 : N6 = 0
      · have d0 : decide (0 < N6) = false := by simp; omega
        have z0 : N6 ≤ 0 := by omega
        clear h0 k6 S46 s6b6
        have own0 : OwnL 1 encB 5 wv.heap.size wv (.slice none 0 0) [] := OwnL.nil _ _ _ _ _
        have s4s := S4.sl
        have s6s := s6b.sl
        have NB := NIL6.out
        have hbv := T.lt
        go_wp2_with (first
          | (at_builtin; (refine wpList_append_rd (enc := encB) wv rfl (.const (.slice none 0 0)) (.tmp 85) 46 rfl wv.heap.size 5 (.int .u8 0) 1 1 Try.underlying46 Try.infoB rfl (by omega) (by omega) _ [] own0 rfl _ A6 N6 C6 E1 s6s NB (fun _ => rfl) (by simp [encB, Value.oneCell']) rfl (by simp) (by omega) (Nat.le_refl _) ?_); intro x7 y7 own7 hch0 hch1; have kx : Ex wv y7 := hch1; have own7 : OwnL 1 encB 5 wv.heap.size y7 x7 E1 := own7; have s4t := s4s.nx kx; clear hch0 hch1)
          | (at_builtin; (refine wpList_append_rd (enc := encB) y7 rfl (.tmp 86) (.tmp 87) 46 rfl wv.heap.size 5 (.int .u8 0) 1 1 Try.underlying46 Try.infoB rfl (by omega) (by omega) _ E1 own7 rfl _ a1 n1 c1 l1 s4t L1 (fun _ => rfl) (by simp [encB, Value.oneCell']) rfl (by omega) (by omega) kx.size ?_); intro x8 y8 own10 hch0 hch1; have ky : Ex wv y8 := Chg.trans kx hch1; clear hch0 hch1))
        obtain ⟨A9, N9, C9, rfl, s9, _, o9, m9, _, len9⟩ := run_own2 own10
        have h9 : N9 ≤ 220 := by
          rw [len9, List.length_append, S4.len]
          exact Nat.le_trans (Nat.add_le_add lx hn2) (by decide)
        replace kn := kn.nxb (ky.b b)
        replace T := T.nx ky
        replace S4 := S4.nxb (ky.b b)
        replace s6b := s6b.nxb (ky.b b)
        replace own8 := own8.nx ky
        replace s9 := s9.slb hbv
        clear s4s s6s own7 s4t kx ky own10 len9 own0
        (with_reducible refine (next_t ((N6 : Int) + 1) _ T (by omega) (by omega)).mono ?_)
        clear T
        rintro e z1 ⟨j, rfl, j0, j1, T, kk⟩
        obtain ⟨j, rfl⟩ := Int.eq_ofNat_of_zero_le j0
        replace kn := kn.nxb kk
        replace S4 := S4.nxb kk
        replace s6b := s6b.nxb kk
        replace s9 := s9.nxb kk
        replace own8 := own8.nxb hb6 kk
        have jN : (j : Int) ≤ (C6 : Int) := by omega
        have jC : j ≤ C6 := by omega
        have sj := (s6b.sl).take (m := j) (by omega)
        obtain ⟨s8, o8', m8', len8'⟩ := own_rd own8
        have h8 : N8 ≤ 220 := by rw [len8']; exact hLB
        have QS : Sl 1 encQ (z1.alloc (.cells #[.slice a1 n1 c1, .slice A9 N9 C9, .slice A8 N8 C8, .slice A6 j C6] 46)) (some ⟨z1.heap.size, 0, none⟩) 4 [(a1, n1, c1, l1), (A9, N9, C9, E1 ++ l1), (A8, N8, C8, LB), (A6, j, C6, E1.take j)] := Sl.lit _ rfl rfl (fun _ => rfl) rfl
        have kk2 := Ex.new z1 (.cells #[.slice a1 n1 c1, .slice A9 N9 C9, .slice A8 N8 C8, .slice A6 j C6] 46)
        have good := good4 (a1, n1, c1, l1) (A9, N9, C9, E1 ++ l1) (A8, N8, C8, LB) (A6, j, C6, E1.take j) (mkGood (S4.sl.nx kk2) (by omega) (by omega) (by unfold maxLen; omega)) (mkGood (s9.sl.nx kk2) (by omega) o9 m9) (mkGood (s8.nx kk2) (by omega) o8' m8') (mkGood (sj.nx kk2) (by omega) (by omega) (by unfold maxLen; omega))
        have GOOD := Lib.hid good
        generalize [(a1, n1, c1, l1), (A9, N9, C9, E1 ++ l1), (A8, N8, C8, LB), (A6, j, C6, E1.take j)] = QL at QS GOOD
        replace kn := kn.nxb (kk2.b b)
        replace T := T.nx kk2
        obtain ⟨wq, hwq⟩ : ∃ wq, wq = z1.alloc (.cells #[.slice a1 n1 c1, .slice A9 N9 C9, .slice A8 N8 C8, .slice A6 j C6] 46) := ⟨_, rfl⟩
        obtain ⟨gq, hgq⟩ : ∃ gq, gq = z1.heap.size := ⟨_, rfl⟩
        rw [← hwq] at QS GOOD kn T
        rw [← hgq] at QS
        have HWQ := Lib.hid hwq
        have HGQ := Lib.hid hgq
        clear good kk kk2 hwq hgq S4 s6b s9 own8 sj s8 len8' m8' m9 m8
        go_wp2_with fail
        rw [← HGQ.out, ← HWQ.out]
        go_loopw [99] (fun i wr => InRel wq i wr) (fun i _ => 4 - (intOf i).toNat)
        case atStart => exact ⟨0, by omega, rfl, Ex.refl _⟩
        case round =>
          obtain ⟨m, hm, rfl, ki⟩ := hrel
          obtain ⟨wi, rfl⟩ : ∃ wi : World, wi = wr := ⟨_, rfl⟩
          by_cases hlt2 : m < 4
          · obtain ⟨x, o, ⟨aq, nq, cq, lq⟩, hxo, hx, hy, hcell⟩ := (QS.nx ki).at hlt2
            cases hxo
            have c0 : wi.cell? ⟨gq, m, none⟩ = some (.slice aq nq cq) := by simpa using hcell 0 _ rfl
            obtain ⟨g1, g2, g3, g4⟩ := GOOD.out _ (List.mem_of_getElem? hy)
            have g1 := g1.nx ki
            clear hcell hy QS T kn
            go_wp2_with fail
            (with_reducible refine (dec_p _ _ _ _ _ g1 g2 g3 g4).mono ?_)
            rintro e d1 ⟨rfl, kk⟩
            replace ki := ki.nx kk
            replace g1 := g1.nx kk
            obtain ⟨⟨⟨X, Y⟩, M, R⟩, hD⟩ : ∃ D, D = decS lq := ⟨_, rfl⟩
            have HD := Lib.hid hD
            rw [← hD]
            have B9 := Blk.new d1 [.int .i64 X, .int .i64 Y] 23
            have k9 := Ex.new d1 (.cells #[.int .i64 X, .int .i64 Y] 23)
            have L9 : d1.heap.size < (d1.alloc (.cells #[.int .i64 X, .int .i64 Y] 23)).heap.size := by simp
            replace ki := ki.nx k9
            replace g1 := g1.nx k9
            clear kk c0 hD
            go_wp2_with fail
            (with_reducible refine (dec_r _ _ _ _ _ g1 g2 g3 g4).mono ?_)
            rintro e d2 ⟨rfl, kk⟩
            rw [← HD.out]
            replace ki := Lib.hid ((ki.nx kk).alloc (.cells #[.int .i64 X, .int .i64 Y] 23))
            obtain ⟨p0, p1⟩ := (B9.nx kk).cell2
            have lt9 : d1.heap.size < d2.heap.size := Nat.lt_of_lt_of_le L9 kk.size
            clear kk B9 k9 g1 L9
            go_wp2_with fail
            exact ⟨⟨m + 1, by omega, by go_num, ki.out⟩, by simp [intOf]; try omega⟩
          · replace kn := kn.nxb (ki.b b)
            replace T := T.nx ki
            clear QS ki
            go_wp2_with fail
            exact ⟨⟨k + 1, by omega, by go_num, kn, T⟩, by simp [intOf]; try omega⟩
      · have h0p : 0 < N6 := by omega
        clear h0
        go_wp2_with fail
        refine (bool_t 2 _ T (by omega) (by omega)).mono ?_
        clear T
        rintro e w9 ⟨r, rfl, T, kk⟩
        replace kn := kn.nxb kk
        replace S4 := S4.nxb kk
        replace s6b := s6b.nxb kk
        replace own8 := own8.nxb hb6 kk
        replace k6 := k6.nxb kk
        clear kk
        obtain ⟨wv, rfl⟩ : ∃ wv, wv = w9 := ⟨_, rfl⟩
        cases r with
        | false =>
          clear k6 S46 s6b6
          have own0 : OwnL 1 encB 5 wv.heap.size wv (.slice none 0 0) [] := OwnL.nil _ _ _ _ _
          have s4s := S4.sl
          have s6s := s6b.sl
          have NB := NIL6.out
          have hbv := T.lt
          go_wp2_with (first
            | (at_builtin; (refine wpList_append_rd (enc := encB) wv rfl (.const (.slice none 0 0)) (.tmp 85) 46 rfl wv.heap.size 5 (.int .u8 0) 1 1 Try.underlying46 Try.infoB rfl (by omega) (by omega) _ [] own0 rfl _ A6 N6 C6 E1 s6s NB (fun _ => rfl) (by simp [encB, Value.oneCell']) rfl (by simp) (by omega) (Nat.le_refl _) ?_); intro x7 y7 own7 hch0 hch1; have kx : Ex wv y7 := hch1; have own7 : OwnL 1 encB 5 wv.heap.size y7 x7 E1 := own7; have s4t := s4s.nx kx; clear hch0 hch1)
            | (at_builtin; (refine wpList_append_rd (enc := encB) y7 rfl (.tmp 86) (.tmp 87) 46 rfl wv.heap.size 5 (.int .u8 0) 1 1 Try.underlying46 Try.infoB rfl (by omega) (by omega) _ E1 own7 rfl _ a1 n1 c1 l1 s4t L1 (fun _ => rfl) (by simp [encB, Value.oneCell']) rfl (by omega) (by omega) kx.size ?_); intro x8 y8 own10 hch0 hch1; have ky : Ex wv y8 := Chg.trans kx hch1; clear hch0 hch1))
          obtain ⟨A9, N9, C9, rfl, s9, _, o9, m9, _, len9⟩ := run_own2 own10
          have h9 : N9 ≤ 220 := by
            rw [len9, List.length_append, S4.len]
            exact Nat.le_trans (Nat.add_le_add lx hn2) (by decide)
          replace kn := kn.nxb (ky.b b)
          replace T := T.nx ky
          replace S4 := S4.nxb (ky.b b)
          replace s6b := s6b.nxb (ky.b b)
          replace own8 := own8.nx ky
          replace s9 := s9.slb hbv
          clear s4s s6s own7 s4t kx ky own10 len9 own0
          (with_reducible refine (next_t ((N6 : Int) + 1) _ T (by omega) (by omega)).mono ?_)
          clear T
          rintro e z1 ⟨j, rfl, j0, j1, T, kk⟩
          obtain ⟨j, rfl⟩ := Int.eq_ofNat_of_zero_le j0
          replace kn := kn.nxb kk
          replace S4 := S4.nxb kk
          replace s6b := s6b.nxb kk
          replace s9 := s9.nxb kk
          replace own8 := own8.nxb hb6 kk
          have jN : (j : Int) ≤ (C6 : Int) := by omega
          have jC : j ≤ C6 := by omega
          have sj := (s6b.sl).take (m := j) (by omega)
          obtain ⟨s8, o8', m8', len8'⟩ := own_rd own8
          have h8 : N8 ≤ 220 := by rw [len8']; exact hLB
          have QS : Sl 1 encQ (z1.alloc (.cells #[.slice a1 n1 c1, .slice A9 N9 C9, .slice A8 N8 C8, .slice A6 j C6] 46)) (some ⟨z1.heap.size, 0, none⟩) 4 [(a1, n1, c1, l1), (A9, N9, C9, E1 ++ l1), (A8, N8, C8, LB), (A6, j, C6, E1.take j)] := Sl.lit _ rfl rfl (fun _ => rfl) rfl
          have kk2 := Ex.new z1 (.cells #[.slice a1 n1 c1, .slice A9 N9 C9, .slice A8 N8 C8, .slice A6 j C6] 46)
          have good := good4 (a1, n1, c1, l1) (A9, N9, C9, E1 ++ l1) (A8, N8, C8, LB) (A6, j, C6, E1.take j) (mkGood (S4.sl.nx kk2) (by omega) (by omega) (by unfold maxLen; omega)) (mkGood (s9.sl.nx kk2) (by omega) o9 m9) (mkGood (s8.nx kk2) (by omega) o8' m8') (mkGood (sj.nx kk2) (by omega) (by omega) (by unfold maxLen; omega))
          have GOOD := Lib.hid good
          generalize [(a1, n1, c1, l1), (A9, N9, C9, E1 ++ l1), (A8, N8, C8, LB), (A6, j, C6, E1.take j)] = QL at QS GOOD
          replace kn := kn.nxb (kk2.b b)
          replace T := T.nx kk2
          obtain ⟨wq, hwq⟩ : ∃ wq, wq = z1.alloc (.cells #[.slice a1 n1 c1, .slice A9 N9 C9, .slice A8 N8 C8, .slice A6 j C6] 46) := ⟨_, rfl⟩
          obtain ⟨gq, hgq⟩ : ∃ gq, gq = z1.heap.size := ⟨_, rfl⟩
          rw [← hwq] at QS GOOD kn T
          rw [← hgq] at QS
          have HWQ := Lib.hid hwq
          have HGQ := Lib.hid hgq
          clear good kk kk2 hwq hgq S4 s6b s9 own8 sj s8 len8' m8' m9 m8
          go_wp2_with fail
          rw [← HGQ.out, ← HWQ.out]
          go_loopw [99] (fun i wr => InRel wq i wr) (fun i _ => 4 - (intOf i).toNat)
          case atStart => exact ⟨0, by omega, rfl, Ex.refl _⟩
          case round =>
            obtain ⟨m, hm, rfl, ki⟩ := hrel
            obtain ⟨wi, rfl⟩ : ∃ wi : World, wi = wr := ⟨_, rfl⟩
            by_cases hlt2 : m < 4
            · obtain ⟨x, o, ⟨aq, nq, cq, lq⟩, hxo, hx, hy, hcell⟩ := (QS.nx ki).at hlt2
              cases hxo
              have c0 : wi.cell? ⟨gq, m, none⟩ = some (.slice aq nq cq) := by simpa using hcell 0 _ rfl
              obtain ⟨g1, g2, g3, g4⟩ := GOOD.out _ (List.mem_of_getElem? hy)
              have g1 := g1.nx ki
              clear hcell hy QS T kn
              go_wp2_with fail
              (with_reducible refine (dec_p _ _ _ _ _ g1 g2 g3 g4).mono ?_)
              rintro e d1 ⟨rfl, kk⟩
              replace ki := ki.nx kk
              replace g1 := g1.nx kk
              obtain ⟨⟨⟨X, Y⟩, M, R⟩, hD⟩ : ∃ D, D = decS lq := ⟨_, rfl⟩
              have HD := Lib.hid hD
              rw [← hD]
              have B9 := Blk.new d1 [.int .i64 X, .int .i64 Y] 23
              have k9 := Ex.new d1 (.cells #[.int .i64 X, .int .i64 Y] 23)
              have L9 : d1.heap.size < (d1.alloc (.cells #[.int .i64 X, .int .i64 Y] 23)).heap.size := by simp
              replace ki := ki.nx k9
              replace g1 := g1.nx k9
              clear kk c0 hD
              go_wp2_with fail
              (with_reducible refine (dec_r _ _ _ _ _ g1 g2 g3 g4).mono ?_)
              rintro e d2 ⟨rfl, kk⟩
              rw [← HD.out]
              replace ki := Lib.hid ((ki.nx kk).alloc (.cells #[.int .i64 X, .int .i64 Y] 23))
              obtain ⟨p0, p1⟩ := (B9.nx kk).cell2
              have lt9 : d1.heap.size < d2.heap.size := Nat.lt_of_lt_of_le L9 kk.size
              clear kk B9 k9 g1 L9
              go_wp2_with fail
              exact ⟨⟨m + 1, by omega, by go_num, ki.out⟩, by simp [intOf]; try omega⟩
            · replace kn := kn.nxb (ki.b b)
              replace T := T.nx ki
              clear QS ki
              go_wp2_with fail
              exact ⟨⟨k + 1, by omega, by go_num, kn, T⟩, by simp [intOf]; try omega⟩
        | true =>
          go_wp2_with fail
          obtain ⟨g8, C8', e8, x1', x2', x3', x4'⟩ := own_some own8 (by rw [← LEN8.out]; omega)
          have hA8 : A8 = some ⟨g8, 0, none⟩ := by cases e8; rfl
          subst hA8
          clear e8 x3' x4'
          have TD : TK wv.drew b := T
          have ownD := own8.nxb hb6 (Exb.refl b wv).drew
          have kn := kn.drew
          have k6 := k6.drew
          clear T own8 S4 s6b
          refine wp_region_held_drew (S := fun _ => True) (by kernel_rfl) trivial (fun hHeld => ?_)
          refine wpAnyH_take (i := 0) (oi := { dst := some 71, op := Op.move (Operand.tmp 14), type := 46, pos := "law.go:87", after := #[], guard := none }) (v := ?_) rfl (by kernel_rfl) (by kernel_rfl) (by kernel_rfl) (fun _ _ _ h => h) (Or.inl ⟨by rfl, ?hyr2x0q1⟩) (by assumption) ?restr2x0q1
          case hyr2x0q1 => intro wq hSw; (go_simp); (try with_reducible rfl)
          try simp only [Act.put, List.setIfInBounds_toArray, List.set_cons_zero, List.set_cons_succ]
          refine wpAnyH_take (i := 1) (oi := { dst := some 72, op := Op.move (Operand.tmp 7), type := 27, pos := "law.go:87", after := #[], guard := none }) (v := ?_) rfl (by kernel_rfl) (by kernel_rfl) (by kernel_rfl) (fun _ _ _ h => h) (Or.inl ⟨by rfl, ?hyr2x1q4⟩) (by assumption) ?restr2x1q4
          case hyr2x1q4 => intro wq hSw; (go_simp); (try with_reducible rfl)
          try simp only [Act.put, List.setIfInBounds_toArray, List.set_cons_zero, List.set_cons_succ]
          refine wpAnyH_take (i := 2) (oi := { dst := some 73, op := Op.move (Operand.tmp 12), type := 46, pos := "law.go:87", after := #[], guard := none }) (v := ?_) rfl (by kernel_rfl) (by kernel_rfl) (by kernel_rfl) (fun _ _ _ h => h) (Or.inl ⟨by rfl, ?hyr2x2q7⟩) (by assumption) ?restr2x2q7
          case hyr2x2q7 => intro wq hSw; (go_simp); (try with_reducible rfl)
          try simp only [Act.put, List.setIfInBounds_toArray, List.set_cons_zero, List.set_cons_succ]
          refine wpAnyH_take (i := 3) (oi := { dst := some 74, op := Op.call { callee := Callee.builtin Builtin.len, args := #[Operand.tmp 73], argTypes := #[46] }, type := 3, pos := "law.go:87", after := #[{ on := 2, ground := Ground.data }], guard := none }) (v := ?_) rfl (by kernel_rfl) (by kernel_rfl) (by kernel_rfl) (fun _ _ _ h => h) (Or.inl ⟨by rfl, ?hyr2x3q10⟩) (by assumption) ?restr2x3q10
          case hyr2x3q10 => intro wq hSw; (go_simp); (try with_reducible rfl)
          try simp only [Act.put, List.setIfInBounds_toArray, List.set_cons_zero, List.set_cons_succ]
          refine wpAnyH_take (i := 7) (oi := { dst := some 78, op := Op.move (Operand.tmp 7), type := 27, pos := "law.go:87", after := #[], guard := none }) (v := ?_) rfl (by kernel_rfl) (by kernel_rfl) (by kernel_rfl) (fun _ _ _ h => h) (Or.inl ⟨by rfl, ?hyr2x7q13⟩) (by assumption) ?restr2x7q13
          case hyr2x7q13 => intro wq hSw; (go_simp); (try with_reducible rfl)
          try simp only [Act.put, List.setIfInBounds_toArray, List.set_cons_zero, List.set_cons_succ]
          refine wpAnyH_ready (rs := [4]) (by kernel_rfl) (by simp) ?_
          refine AllReadyH.cons (o := { dst := some 75, op := Op.call { callee := Callee.value (Operand.func 21), args := #[Operand.tmp 72, Operand.tmp 74], argTypes := #[27, 3] }, type := 3, pos := "law.go:87", after := #[{ on := 1, ground := Ground.data }, { on := 3, ground := Ground.data }], guard := none }) rfl (fun K hK => ?_) AllReadyH.nil
          go_simp
          (refine (next_t (N6 : Int) _ TD (by omega) (by omega)).mono ?_)
          rintro e v1 ⟨j, rfl, j0, j1, T2, kk⟩
          obtain ⟨j, rfl⟩ := Int.eq_ofNat_of_zero_le j0
          replace ownD := ownD.nxb hb6 kk
          replace kn := kn.nxb kk
          replace k6 := k6.nxb kk
          clear kk TD
          have jlt : j < N8 := by omega
          have jn : (j : Int) < (N8 : Int) := by omega
          have jw : IntKind.i64.wrap (j : Int) = (j : Int) := IntWalk.i64_in _ (by omega)
          refine hK.out _ _ trivial (fun _ => ?_)
          clear hK K
          try simp only [Act.put, List.setIfInBounds_toArray, List.set_cons_zero, List.set_cons_succ]
          refine wpAnyH_take (i := 5) (oi := { dst := some 76, op := Op.indexAddr 46 (Operand.tmp 71) (Operand.tmp 75), type := 0, pos := "law.go:87", after := #[{ on := 0, ground := Ground.data }, { on := 4, ground := Ground.data }], guard := none }) (v := ?_) rfl (by kernel_rfl) (by kernel_rfl) (by kernel_rfl) (fun _ _ _ h => h) (Or.inl ⟨by rfl, ?hyr2x5q32⟩) (by assumption) ?restr2x5q32
          case hyr2x5q32 => intro wq hSw; (go_simp); (try with_reducible rfl)
          try simp only [Act.put, List.setIfInBounds_toArray, List.set_cons_zero, List.set_cons_succ]
          refine wpAnyH_ready (rs := [6, 8]) (by kernel_rfl) (by simp) ?_
          refine AllReadyH.cons (o := { dst := some 77, op := Op.load 5 (Operand.tmp 76), type := 5, pos := "law.go:87", after := #[{ on := 5, ground := Ground.data }], guard := none }) rfl (fun K hK => ?_) ?_
          · have cc0 := (own_cell ownD jlt).1
            go_simp
            clear cc0
            refine hK.out _ _ trivial (fun _ => ?_)
            clear hK K
            try simp only [Act.put, List.setIfInBounds_toArray, List.set_cons_zero, List.set_cons_succ]
            refine wpAnyH_ready (rs := [8]) (by kernel_rfl) (by simp) ?_
            refine AllReadyH.cons (o := { dst := some 79, op := Op.call { callee := Callee.value (Operand.func 21), args := #[Operand.tmp 78, Operand.const (Value.int IntKind.i64 255)], argTypes := #[27, 3] }, type := 3, pos := "law.go:87", after := #[{ on := 7, ground := Ground.data }, { on := 4, ground := Ground.chain }], guard := none }) rfl (fun K hK => ?_) AllReadyH.nil
            go_simp
            (refine (next_t 255 _ T2 (by omega) (by omega)).mono ?_)
            clear T2
            rintro e v2 ⟨j', rfl, j0', j1', T2, kk⟩
            replace ownD := ownD.nxb hb6 kk
            replace kn := kn.nxb kk
            replace k6 := k6.nxb kk
            clear kk
            refine hK.out _ _ trivial (fun _ => ?_)
            clear hK K
            try simp only [Act.put, List.setIfInBounds_toArray, List.set_cons_zero, List.set_cons_succ]
            refine wpAnyH_take (i := 9) (oi := { dst := some 80, op := Op.binOp BinOp.add 3 (Operand.const (Value.int IntKind.i64 1)) (Operand.tmp 79) 3, type := 3, pos := "law.go:87", after := #[{ on := 8, ground := Ground.data }], guard := none }) (v := ?_) rfl (by kernel_rfl) (by kernel_rfl) (by kernel_rfl) (fun _ _ _ h => h) (Or.inl ⟨by rfl, ?hyr2x9q56⟩) (by assumption) ?restr2x9q56
            case hyr2x9q56 => intro wq hSw; (go_simp); (try with_reducible rfl)
            try simp only [Act.put, List.setIfInBounds_toArray, List.set_cons_zero, List.set_cons_succ]
            refine wpAnyH_take (i := 10) (oi := { dst := some 81, op := Op.convert 3 5 (Operand.tmp 80), type := 5, pos := "law.go:87", after := #[{ on := 9, ground := Ground.data }], guard := none }) (v := ?_) rfl (by kernel_rfl) (by kernel_rfl) (by kernel_rfl) (fun _ _ _ h => h) (Or.inl ⟨by rfl, ?hyr2x10q59⟩) (by assumption) ?restr2x10q59
            case hyr2x10q59 => intro wq hSw; (go_simp); (try with_reducible rfl)
            try simp only [Act.put, List.setIfInBounds_toArray, List.set_cons_zero, List.set_cons_succ]
            refine wpAnyH_take (i := 11) (oi := { dst := some 82, op := Op.binOp BinOp.xor 5 (Operand.tmp 77) (Operand.tmp 81) 5, type := 5, pos := "law.go:87", after := #[{ on := 6, ground := Ground.data }, { on := 10, ground := Ground.data }], guard := none }) (v := ?_) rfl (by kernel_rfl) (by kernel_rfl) (by kernel_rfl) (fun _ _ _ h => h) (Or.inl ⟨by rfl, ?hyr2x11q62⟩) (by assumption) ?restr2x11q62
            case hyr2x11q62 => intro wq hSw; (go_simp); (try with_reducible rfl)
            try simp only [Act.put, List.setIfInBounds_toArray, List.set_cons_zero, List.set_cons_succ]
            refine wpAnyH_take (i := 12) (oi := { dst := some 83, op := Op.indexAddr 46 (Operand.tmp 71) (Operand.tmp 75), type := 0, pos := "law.go:87", after := #[{ on := 0, ground := Ground.data }, { on := 4, ground := Ground.data }, { on := 0, ground := Ground.phase }, { on := 1, ground := Ground.phase }, { on := 2, ground := Ground.phase }, { on := 3, ground := Ground.phase }, { on := 4, ground := Ground.phase }, { on := 5, ground := Ground.phase }, { on := 6, ground := Ground.phase }, { on := 7, ground := Ground.phase }, { on := 8, ground := Ground.phase }, { on := 9, ground := Ground.phase }, { on := 10, ground := Ground.phase }, { on := 11, ground := Ground.phase }], guard := none }) (v := ?_) rfl (by kernel_rfl) (by kernel_rfl) (by kernel_rfl) (fun _ _ _ h => h) (Or.inl ⟨by rfl, ?hyr2x12q65⟩) (by assumption) ?restr2x12q65
            case hyr2x12q65 => intro wq hSw; (go_simp); (try with_reducible rfl)
            try simp only [Act.put, List.setIfInBounds_toArray, List.set_cons_zero, List.set_cons_succ]
            refine wpAnyH_ready (rs := [13]) (by kernel_rfl) (by simp) ?_
            refine AllReadyH.cons (o := { dst := none, op := Op.store 5 (Operand.tmp 83) (Operand.tmp 82), type := 0, pos := "law.go:87", after := #[{ on := 12, ground := Ground.data }, { on := 11, ground := Ground.data }, { on := 8, ground := Ground.chain }, { on := 0, ground := Ground.phase }, { on := 1, ground := Ground.phase }, { on := 2, ground := Ground.phase }, { on := 3, ground := Ground.phase }, { on := 4, ground := Ground.phase }, { on := 5, ground := Ground.phase }, { on := 6, ground := Ground.phase }, { on := 7, ground := Ground.phase }, { on := 8, ground := Ground.phase }, { on := 9, ground := Ground.phase }, { on := 10, ground := Ground.phase }, { on := 11, ground := Ground.phase }], guard := none }) rfl (fun K hK => ?_) AllReadyH.nil
            have cc0 := (own_cell ownD jlt).1
            have ff0 := (own_cell ownD jlt).2.1
            go_simp
            refine hK.out _ _ trivial (fun _ => ?_)
            clear hK K
            try simp only [Act.put, List.setIfInBounds_toArray, List.set_cons_zero, List.set_cons_succ]
            refine wpAnyH_done (by kernel_rfl) ?_ _
            obtain ⟨z, hz⟩ := xor_byte ((LB[j]?.getD 0).toNat : Int) (IntKind.u8.wrap (IntKind.i64.wrap (1 + j')))
            rw [hz]
            have own8 := (own_cell ownD jlt).2.2 z
            replace T := T2.set (p := ⟨g8, j, none⟩) (.int .u8 (z.toNat : Int)) (Nat.lt_of_lt_of_le hb6 x1')
            replace kn := kn.setNew (p := ⟨g8, j, none⟩) (.int .u8 (z.toNat : Int)) (Nat.le_trans SZ6.out x1')
            replace k6 := k6.setNew (p := ⟨g8, j, none⟩) (.int .u8 (z.toNat : Int)) x1'
            have S4 := S46.out.nxb k6
            have s6b := s6b6.out.nxb k6
            have hLB : (LB.set j z).length ≤ 220 := by rw [List.length_set]; exact hLB
            generalize LB.set j z = LB at own8 hLB
            obtain ⟨wv, hwv⟩ : ∃ wv, wv = v2.setCell ⟨g8, j, none⟩ (.int .u8 (z.toNat : Int)) := ⟨_, rfl⟩
            rw [← hwv] at own8 T kn k6 S4 s6b ⊢
            clear hwv hz jlt jn jw j0 j1 j0' j1' ownD T2 x1' x2' k6 S46 s6b6
            generalize (some ⟨g8, 0, none⟩ : Option Addr) = A8 at own8 ⊢
            have own0 : OwnL 1 encB 5 wv.heap.size wv (.slice none 0 0) [] := OwnL.nil _ _ _ _ _
            have s4s := S4.sl
            have s6s := s6b.sl
            have NB := NIL6.out
            have hbv := T.lt
            go_wp2_with (first
              | (at_builtin; (refine wpList_append_rd (enc := encB) wv rfl (.const (.slice none 0 0)) (.tmp 85) 46 rfl wv.heap.size 5 (.int .u8 0) 1 1 Try.underlying46 Try.infoB rfl (by omega) (by omega) _ [] own0 rfl _ A6 N6 C6 E1 s6s NB (fun _ => rfl) (by simp [encB, Value.oneCell']) rfl (by simp) (by omega) (Nat.le_refl _) ?_); intro x7 y7 own7 hch0 hch1; have kx : Ex wv y7 := hch1; have own7 : OwnL 1 encB 5 wv.heap.size y7 x7 E1 := own7; have s4t := s4s.nx kx; clear hch0 hch1)
              | (at_builtin; (refine wpList_append_rd (enc := encB) y7 rfl (.tmp 86) (.tmp 87) 46 rfl wv.heap.size 5 (.int .u8 0) 1 1 Try.underlying46 Try.infoB rfl (by omega) (by omega) _ E1 own7 rfl _ a1 n1 c1 l1 s4t L1 (fun _ => rfl) (by simp [encB, Value.oneCell']) rfl (by omega) (by omega) kx.size ?_); intro x8 y8 own10 hch0 hch1; have ky : Ex wv y8 := Chg.trans kx hch1; clear hch0 hch1))
            obtain ⟨A9, N9, C9, rfl, s9, _, o9, m9, _, len9⟩ := run_own2 own10
            have h9 : N9 ≤ 220 := by
              rw [len9, List.length_append, S4.len]
              exact Nat.le_trans (Nat.add_le_add lx hn2) (by decide)
            replace kn := kn.nxb (ky.b b)
            replace T := T.nx ky
            replace S4 := S4.nxb (ky.b b)
            replace s6b := s6b.nxb (ky.b b)
            replace own8 := own8.nx ky
            replace s9 := s9.slb hbv
            clear s4s s6s own7 s4t kx ky own10 len9 own0
            (with_reducible refine (next_t ((N6 : Int) + 1) _ T (by omega) (by omega)).mono ?_)
            clear T
            rintro e z1 ⟨j, rfl, j0, j1, T, kk⟩
            obtain ⟨j, rfl⟩ := Int.eq_ofNat_of_zero_le j0
            replace kn := kn.nxb kk
            replace S4 := S4.nxb kk
            replace s6b := s6b.nxb kk
            replace s9 := s9.nxb kk
            replace own8 := own8.nxb hb6 kk
            have jN : (j : Int) ≤ (C6 : Int) := by omega
            have jC : j ≤ C6 := by omega
            have sj := (s6b.sl).take (m := j) (by omega)
            obtain ⟨s8, o8', m8', len8'⟩ := own_rd own8
            have h8 : N8 ≤ 220 := by rw [len8']; exact hLB
            have QS : Sl 1 encQ (z1.alloc (.cells #[.slice a1 n1 c1, .slice A9 N9 C9, .slice A8 N8 C8, .slice A6 j C6] 46)) (some ⟨z1.heap.size, 0, none⟩) 4 [(a1, n1, c1, l1), (A9, N9, C9, E1 ++ l1), (A8, N8, C8, LB), (A6, j, C6, E1.take j)] := Sl.lit _ rfl rfl (fun _ => rfl) rfl
            have kk2 := Ex.new z1 (.cells #[.slice a1 n1 c1, .slice A9 N9 C9, .slice A8 N8 C8, .slice A6 j C6] 46)
            have good := good4 (a1, n1, c1, l1) (A9, N9, C9, E1 ++ l1) (A8, N8, C8, LB) (A6, j, C6, E1.take j) (mkGood (S4.sl.nx kk2) (by omega) (by omega) (by unfold maxLen; omega)) (mkGood (s9.sl.nx kk2) (by omega) o9 m9) (mkGood (s8.nx kk2) (by omega) o8' m8') (mkGood (sj.nx kk2) (by omega) (by omega) (by unfold maxLen; omega))
            have GOOD := Lib.hid good
            generalize [(a1, n1, c1, l1), (A9, N9, C9, E1 ++ l1), (A8, N8, C8, LB), (A6, j, C6, E1.take j)] = QL at QS GOOD
            replace kn := kn.nxb (kk2.b b)
            replace T := T.nx kk2
            obtain ⟨wq, hwq⟩ : ∃ wq, wq = z1.alloc (.cells #[.slice a1 n1 c1, .slice A9 N9 C9, .slice A8 N8 C8, .slice A6 j C6] 46) := ⟨_, rfl⟩
            obtain ⟨gq, hgq⟩ : ∃ gq, gq = z1.heap.size := ⟨_, rfl⟩
            rw [← hwq] at QS GOOD kn T
            rw [← hgq] at QS
            have HWQ := Lib.hid hwq
            have HGQ := Lib.hid hgq
            clear good kk kk2 hwq hgq S4 s6b s9 own8 sj s8 len8' m8' m9 m8
            go_wp2_with fail
            rw [← HGQ.out, ← HWQ.out]
            go_loopw [99] (fun i wr => InRel wq i wr) (fun i _ => 4 - (intOf i).toNat)
            case atStart => exact ⟨0, by omega, rfl, Ex.refl _⟩
            case round =>
              obtain ⟨m, hm, rfl, ki⟩ := hrel
              obtain ⟨wi, rfl⟩ : ∃ wi : World, wi = wr := ⟨_, rfl⟩
              by_cases hlt2 : m < 4
              · obtain ⟨x, o, ⟨aq, nq, cq, lq⟩, hxo, hx, hy, hcell⟩ := (QS.nx ki).at hlt2
                cases hxo
                have c0 : wi.cell? ⟨gq, m, none⟩ = some (.slice aq nq cq) := by simpa using hcell 0 _ rfl
                obtain ⟨g1, g2, g3, g4⟩ := GOOD.out _ (List.mem_of_getElem? hy)
                have g1 := g1.nx ki
                clear hcell hy QS T kn
                go_wp2_with fail
                (with_reducible refine (dec_p _ _ _ _ _ g1 g2 g3 g4).mono ?_)
                rintro e d1 ⟨rfl, kk⟩
                replace ki := ki.nx kk
                replace g1 := g1.nx kk
                obtain ⟨⟨⟨X, Y⟩, M, R⟩, hD⟩ : ∃ D, D = decS lq := ⟨_, rfl⟩
                have HD := Lib.hid hD
                rw [← hD]
                have B9 := Blk.new d1 [.int .i64 X, .int .i64 Y] 23
                have k9 := Ex.new d1 (.cells #[.int .i64 X, .int .i64 Y] 23)
                have L9 : d1.heap.size < (d1.alloc (.cells #[.int .i64 X, .int .i64 Y] 23)).heap.size := by simp
                replace ki := ki.nx k9
                replace g1 := g1.nx k9
                clear kk c0 hD
                go_wp2_with fail
                (with_reducible refine (dec_r _ _ _ _ _ g1 g2 g3 g4).mono ?_)
                rintro e d2 ⟨rfl, kk⟩
                rw [← HD.out]
                replace ki := Lib.hid ((ki.nx kk).alloc (.cells #[.int .i64 X, .int .i64 Y] 23))
                obtain ⟨p0, p1⟩ := (B9.nx kk).cell2
                have lt9 : d1.heap.size < d2.heap.size := Nat.lt_of_lt_of_le L9 kk.size
                clear kk B9 k9 g1 L9
                go_wp2_with fail
                exact ⟨⟨m + 1, by omega, by go_num, ki.out⟩, by simp [intOf]; try omega⟩
              · replace kn := kn.nxb (ki.b b)
                replace T := T.nx ki
                clear QS ki
                go_wp2_with fail
                exact ⟨⟨k + 1, by omega, by go_num, kn, T⟩, by simp [intOf]; try omega⟩
          refine AllReadyH.cons (o := { dst := some 79, op := Op.call { callee := Callee.value (Operand.func 21), args := #[Operand.tmp 78, Operand.const (Value.int IntKind.i64 255)], argTypes := #[27, 3] }, type := 3, pos := "law.go:87", after := #[{ on := 7, ground := Ground.data }, { on := 4, ground := Ground.chain }], guard := none }) rfl (fun K hK => ?_) AllReadyH.nil
          · go_simp
            (refine (next_t 255 _ T2 (by omega) (by omega)).mono ?_)
            clear T2
            rintro e v2 ⟨j', rfl, j0', j1', T2, kk⟩
            replace ownD := ownD.nxb hb6 kk
            replace kn := kn.nxb kk
            replace k6 := k6.nxb kk
            clear kk
            refine hK.out _ _ trivial (fun _ => ?_)
            clear hK K
            try simp only [Act.put, List.setIfInBounds_toArray, List.set_cons_zero, List.set_cons_succ]
            refine wpAnyH_take (i := 9) (oi := { dst := some 80, op := Op.binOp BinOp.add 3 (Operand.const (Value.int IntKind.i64 1)) (Operand.tmp 79) 3, type := 3, pos := "law.go:87", after := #[{ on := 8, ground := Ground.data }], guard := none }) (v := ?_) rfl (by kernel_rfl) (by kernel_rfl) (by kernel_rfl) (fun _ _ _ h => h) (Or.inl ⟨by rfl, ?hyr2x9q90⟩) (by assumption) ?restr2x9q90
            case hyr2x9q90 => intro wq hSw; (go_simp); (try with_reducible rfl)
            try simp only [Act.put, List.setIfInBounds_toArray, List.set_cons_zero, List.set_cons_succ]
            refine wpAnyH_take (i := 10) (oi := { dst := some 81, op := Op.convert 3 5 (Operand.tmp 80), type := 5, pos := "law.go:87", after := #[{ on := 9, ground := Ground.data }], guard := none }) (v := ?_) rfl (by kernel_rfl) (by kernel_rfl) (by kernel_rfl) (fun _ _ _ h => h) (Or.inl ⟨by rfl, ?hyr2x10q93⟩) (by assumption) ?restr2x10q93
            case hyr2x10q93 => intro wq hSw; (go_simp); (try with_reducible rfl)
            try simp only [Act.put, List.setIfInBounds_toArray, List.set_cons_zero, List.set_cons_succ]
            refine wpAnyH_ready (rs := [6]) (by kernel_rfl) (by simp) ?_
            refine AllReadyH.cons (o := { dst := some 77, op := Op.load 5 (Operand.tmp 76), type := 5, pos := "law.go:87", after := #[{ on := 5, ground := Ground.data }], guard := none }) rfl (fun K hK => ?_) AllReadyH.nil
            have cc0 := (own_cell ownD jlt).1
            go_simp
            clear cc0
            refine hK.out _ _ trivial (fun _ => ?_)
            clear hK K
            try simp only [Act.put, List.setIfInBounds_toArray, List.set_cons_zero, List.set_cons_succ]
            refine wpAnyH_take (i := 11) (oi := { dst := some 82, op := Op.binOp BinOp.xor 5 (Operand.tmp 77) (Operand.tmp 81) 5, type := 5, pos := "law.go:87", after := #[{ on := 6, ground := Ground.data }, { on := 10, ground := Ground.data }], guard := none }) (v := ?_) rfl (by kernel_rfl) (by kernel_rfl) (by kernel_rfl) (fun _ _ _ h => h) (Or.inl ⟨by rfl, ?hyr2x11q104⟩) (by assumption) ?restr2x11q104
            case hyr2x11q104 => intro wq hSw; (go_simp); (try with_reducible rfl)
            try simp only [Act.put, List.setIfInBounds_toArray, List.set_cons_zero, List.set_cons_succ]
            refine wpAnyH_take (i := 12) (oi := { dst := some 83, op := Op.indexAddr 46 (Operand.tmp 71) (Operand.tmp 75), type := 0, pos := "law.go:87", after := #[{ on := 0, ground := Ground.data }, { on := 4, ground := Ground.data }, { on := 0, ground := Ground.phase }, { on := 1, ground := Ground.phase }, { on := 2, ground := Ground.phase }, { on := 3, ground := Ground.phase }, { on := 4, ground := Ground.phase }, { on := 5, ground := Ground.phase }, { on := 6, ground := Ground.phase }, { on := 7, ground := Ground.phase }, { on := 8, ground := Ground.phase }, { on := 9, ground := Ground.phase }, { on := 10, ground := Ground.phase }, { on := 11, ground := Ground.phase }], guard := none }) (v := ?_) rfl (by kernel_rfl) (by kernel_rfl) (by kernel_rfl) (fun _ _ _ h => h) (Or.inl ⟨by rfl, ?hyr2x12q107⟩) (by assumption) ?restr2x12q107
            case hyr2x12q107 => intro wq hSw; (go_simp); (try with_reducible rfl)
            try simp only [Act.put, List.setIfInBounds_toArray, List.set_cons_zero, List.set_cons_succ]
            refine wpAnyH_ready (rs := [13]) (by kernel_rfl) (by simp) ?_
            refine AllReadyH.cons (o := { dst := none, op := Op.store 5 (Operand.tmp 83) (Operand.tmp 82), type := 0, pos := "law.go:87", after := #[{ on := 12, ground := Ground.data }, { on := 11, ground := Ground.data }, { on := 8, ground := Ground.chain }, { on := 0, ground := Ground.phase }, { on := 1, ground := Ground.phase }, { on := 2, ground := Ground.phase }, { on := 3, ground := Ground.phase }, { on := 4, ground := Ground.phase }, { on := 5, ground := Ground.phase }, { on := 6, ground := Ground.phase }, { on := 7, ground := Ground.phase }, { on := 8, ground := Ground.phase }, { on := 9, ground := Ground.phase }, { on := 10, ground := Ground.phase }, { on := 11, ground := Ground.phase }], guard := none }) rfl (fun K hK => ?_) AllReadyH.nil
            have cc0 := (own_cell ownD jlt).1
            have ff0 := (own_cell ownD jlt).2.1
            go_simp
            refine hK.out _ _ trivial (fun _ => ?_)
            clear hK K
            try simp only [Act.put, List.setIfInBounds_toArray, List.set_cons_zero, List.set_cons_succ]
            refine wpAnyH_done (by kernel_rfl) ?_ _
            obtain ⟨z, hz⟩ := xor_byte ((LB[j]?.getD 0).toNat : Int) (IntKind.u8.wrap (IntKind.i64.wrap (1 + j')))
            rw [hz]
            have own8 := (own_cell ownD jlt).2.2 z
            replace T := T2.set (p := ⟨g8, j, none⟩) (.int .u8 (z.toNat : Int)) (Nat.lt_of_lt_of_le hb6 x1')
            replace kn := kn.setNew (p := ⟨g8, j, none⟩) (.int .u8 (z.toNat : Int)) (Nat.le_trans SZ6.out x1')
            replace k6 := k6.setNew (p := ⟨g8, j, none⟩) (.int .u8 (z.toNat : Int)) x1'
            have S4 := S46.out.nxb k6
            have s6b := s6b6.out.nxb k6
            have hLB : (LB.set j z).length ≤ 220 := by rw [List.length_set]; exact hLB
            generalize LB.set j z = LB at own8 hLB
            obtain ⟨wv, hwv⟩ : ∃ wv, wv = v2.setCell ⟨g8, j, none⟩ (.int .u8 (z.toNat : Int)) := ⟨_, rfl⟩
            rw [← hwv] at own8 T kn k6 S4 s6b ⊢
            clear hwv hz jlt jn jw j0 j1 j0' j1' ownD T2 x1' x2' k6 S46 s6b6
            generalize (some ⟨g8, 0, none⟩ : Option Addr) = A8 at own8 ⊢
            have own0 : OwnL 1 encB 5 wv.heap.size wv (.slice none 0 0) [] := OwnL.nil _ _ _ _ _
            have s4s := S4.sl
            have s6s := s6b.sl
            have NB := NIL6.out
            have hbv := T.lt
            go_wp2_with (first
              | (at_builtin; (refine wpList_append_rd (enc := encB) wv rfl (.const (.slice none 0 0)) (.tmp 85) 46 rfl wv.heap.size 5 (.int .u8 0) 1 1 Try.underlying46 Try.infoB rfl (by omega) (by omega) _ [] own0 rfl _ A6 N6 C6 E1 s6s NB (fun _ => rfl) (by simp [encB, Value.oneCell']) rfl (by simp) (by omega) (Nat.le_refl _) ?_); intro x7 y7 own7 hch0 hch1; have kx : Ex wv y7 := hch1; have own7 : OwnL 1 encB 5 wv.heap.size y7 x7 E1 := own7; have s4t := s4s.nx kx; clear hch0 hch1)
              | (at_builtin; (refine wpList_append_rd (enc := encB) y7 rfl (.tmp 86) (.tmp 87) 46 rfl wv.heap.size 5 (.int .u8 0) 1 1 Try.underlying46 Try.infoB rfl (by omega) (by omega) _ E1 own7 rfl _ a1 n1 c1 l1 s4t L1 (fun _ => rfl) (by simp [encB, Value.oneCell']) rfl (by omega) (by omega) kx.size ?_); intro x8 y8 own10 hch0 hch1; have ky : Ex wv y8 := Chg.trans kx hch1; clear hch0 hch1))
            obtain ⟨A9, N9, C9, rfl, s9, _, o9, m9, _, len9⟩ := run_own2 own10
            have h9 : N9 ≤ 220 := by
              rw [len9, List.length_append, S4.len]
              exact Nat.le_trans (Nat.add_le_add lx hn2) (by decide)
            replace kn := kn.nxb (ky.b b)
            replace T := T.nx ky
            replace S4 := S4.nxb (ky.b b)
            replace s6b := s6b.nxb (ky.b b)
            replace own8 := own8.nx ky
            replace s9 := s9.slb hbv
            clear s4s s6s own7 s4t kx ky own10 len9 own0
            (with_reducible refine (next_t ((N6 : Int) + 1) _ T (by omega) (by omega)).mono ?_)
            clear T
            rintro e z1 ⟨j, rfl, j0, j1, T, kk⟩
            obtain ⟨j, rfl⟩ := Int.eq_ofNat_of_zero_le j0
            replace kn := kn.nxb kk
            replace S4 := S4.nxb kk
            replace s6b := s6b.nxb kk
            replace s9 := s9.nxb kk
            replace own8 := own8.nxb hb6 kk
            have jN : (j : Int) ≤ (C6 : Int) := by omega
            have jC : j ≤ C6 := by omega
            have sj := (s6b.sl).take (m := j) (by omega)
            obtain ⟨s8, o8', m8', len8'⟩ := own_rd own8
            have h8 : N8 ≤ 220 := by rw [len8']; exact hLB
            have QS : Sl 1 encQ (z1.alloc (.cells #[.slice a1 n1 c1, .slice A9 N9 C9, .slice A8 N8 C8, .slice A6 j C6] 46)) (some ⟨z1.heap.size, 0, none⟩) 4 [(a1, n1, c1, l1), (A9, N9, C9, E1 ++ l1), (A8, N8, C8, LB), (A6, j, C6, E1.take j)] := Sl.lit _ rfl rfl (fun _ => rfl) rfl
            have kk2 := Ex.new z1 (.cells #[.slice a1 n1 c1, .slice A9 N9 C9, .slice A8 N8 C8, .slice A6 j C6] 46)
            have good := good4 (a1, n1, c1, l1) (A9, N9, C9, E1 ++ l1) (A8, N8, C8, LB) (A6, j, C6, E1.take j) (mkGood (S4.sl.nx kk2) (by omega) (by omega) (by unfold maxLen; omega)) (mkGood (s9.sl.nx kk2) (by omega) o9 m9) (mkGood (s8.nx kk2) (by omega) o8' m8') (mkGood (sj.nx kk2) (by omega) (by omega) (by unfold maxLen; omega))
            have GOOD := Lib.hid good
            generalize [(a1, n1, c1, l1), (A9, N9, C9, E1 ++ l1), (A8, N8, C8, LB), (A6, j, C6, E1.take j)] = QL at QS GOOD
            replace kn := kn.nxb (kk2.b b)
            replace T := T.nx kk2
            obtain ⟨wq, hwq⟩ : ∃ wq, wq = z1.alloc (.cells #[.slice a1 n1 c1, .slice A9 N9 C9, .slice A8 N8 C8, .slice A6 j C6] 46) := ⟨_, rfl⟩
            obtain ⟨gq, hgq⟩ : ∃ gq, gq = z1.heap.size := ⟨_, rfl⟩
            rw [← hwq] at QS GOOD kn T
            rw [← hgq] at QS
            have HWQ := Lib.hid hwq
            have HGQ := Lib.hid hgq
            clear good kk kk2 hwq hgq S4 s6b s9 own8 sj s8 len8' m8' m9 m8
            go_wp2_with fail
            rw [← HGQ.out, ← HWQ.out]
            go_loopw [99] (fun i wr => InRel wq i wr) (fun i _ => 4 - (intOf i).toNat)
            case atStart => exact ⟨0, by omega, rfl, Ex.refl _⟩
            case round =>
              obtain ⟨m, hm, rfl, ki⟩ := hrel
              obtain ⟨wi, rfl⟩ : ∃ wi : World, wi = wr := ⟨_, rfl⟩
              by_cases hlt2 : m < 4
              · obtain ⟨x, o, ⟨aq, nq, cq, lq⟩, hxo, hx, hy, hcell⟩ := (QS.nx ki).at hlt2
                cases hxo
                have c0 : wi.cell? ⟨gq, m, none⟩ = some (.slice aq nq cq) := by simpa using hcell 0 _ rfl
                obtain ⟨g1, g2, g3, g4⟩ := GOOD.out _ (List.mem_of_getElem? hy)
                have g1 := g1.nx ki
                clear hcell hy QS T kn
                go_wp2_with fail
                (with_reducible refine (dec_p _ _ _ _ _ g1 g2 g3 g4).mono ?_)
                rintro e d1 ⟨rfl, kk⟩
                replace ki := ki.nx kk
                replace g1 := g1.nx kk
                obtain ⟨⟨⟨X, Y⟩, M, R⟩, hD⟩ : ∃ D, D = decS lq := ⟨_, rfl⟩
                have HD := Lib.hid hD
                rw [← hD]
                have B9 := Blk.new d1 [.int .i64 X, .int .i64 Y] 23
                have k9 := Ex.new d1 (.cells #[.int .i64 X, .int .i64 Y] 23)
                have L9 : d1.heap.size < (d1.alloc (.cells #[.int .i64 X, .int .i64 Y] 23)).heap.size := by simp
                replace ki := ki.nx k9
                replace g1 := g1.nx k9
                clear kk c0 hD
                go_wp2_with fail
                (with_reducible refine (dec_r _ _ _ _ _ g1 g2 g3 g4).mono ?_)
                rintro e d2 ⟨rfl, kk⟩
                rw [← HD.out]
                replace ki := Lib.hid ((ki.nx kk).alloc (.cells #[.int .i64 X, .int .i64 Y] 23))
                obtain ⟨p0, p1⟩ := (B9.nx kk).cell2
                have lt9 : d1.heap.size < d2.heap.size := Nat.lt_of_lt_of_le L9 kk.size
                clear kk B9 k9 g1 L9
                go_wp2_with fail
                exact ⟨⟨m + 1, by omega, by go_num, ki.out⟩, by simp [intOf]; try omega⟩
              · replace kn := kn.nxb (ki.b b)
                replace T := T.nx ki
                clear QS ki
                go_wp2_with fail
                exact ⟨⟨k + 1, by omega, by go_num, kn, T⟩, by simp [intOf]; try omega⟩
    · have qf := q.nxb kw
      clear T kw S3 SLb q
      go_wp2_with fail
      refine (awake_x _).mono ?_
      rintro e w2 ⟨rfl, kk⟩
      go_wp2_with fail
      go_ret
      exact ⟨rfl, qf.1.nx kk⟩
end Go.Proofs.Ytgpoikklnbmpkaa
