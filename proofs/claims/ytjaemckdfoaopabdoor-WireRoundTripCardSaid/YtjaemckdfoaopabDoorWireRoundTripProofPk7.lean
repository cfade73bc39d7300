/- Texts for the statement WireRoundTripProof, part 7 of 8: RdrB, DecS, RdF, DecP, DecF, DlF, RtP. -/
import Derived.Test.YtjaemckdfoaopabDoorWireRoundTripProofPk6

/- The reader of strings of the package wire. -/
namespace Go.Proofs.YtjaemckdfoaopabDoor
open Go.RowKit

set_option maxRecDepth 100000 in
set_option maxHeartbeats 4000000 in
theorem rstr_p (a : Option Addr) (n c : Nat) (R : List UInt8) (ok : Bool) (lim : Nat) (w : World) (h : Sl 1 encB w a n R) (hn : n ≤ 9223372036854775807) (hc : n ≤ c) (hm : c ≤ maxLen) (hf : Form a c) (hlim : lim ≤ 1000) :
    Calls Tryd.prog 29 #[.agg #[.slice a n c, .bool ok], .int .i64 lim] w (RdPost (.string (strN R lim).1) (R.drop (strN R lim).2.1) (ok && ((strN R lim).2.2 == 0)) a w) := by
  have hlen := h.len
  have hk : (strN R lim).2.1 ≤ R.length := strN_take R lim
  rw [hlen] at hk
  have k1 := Ex.new w (.cells #[.slice a n c, .bool ok] 67)
  have B1 := Blk.new w [.slice a n c, .bool ok] 67
  obtain ⟨w1, hw1⟩ : ∃ w1, w1 = w.alloc (.cells #[.slice a n c, .bool ok] 67) := ⟨_, rfl⟩
  obtain ⟨g1, hg1⟩ : ∃ g1, g1 = w.heap.size := ⟨_, rfl⟩
  have B1 : Blk w1 g1 [.slice a n c, .bool ok] 67 := by rw [hw1, hg1]; exact B1
  rw [← hw1] at k1
  have k2 := Ex.new w1 (.cells #[.slice none 0 0, .bool false] 67)
  have B2 := Blk.new w1 [.slice none 0 0, .bool false] 67
  obtain ⟨w2, hw2⟩ : ∃ w2, w2 = w1.alloc (.cells #[.slice none 0 0, .bool false] 67) := ⟨_, rfl⟩
  have hz1 : w1.heap.size = w.heap.size + 1 := by rw [hw1]; simp
  obtain ⟨g2, hg2⟩ : ∃ g2, g2 = w.heap.size + 1 := ⟨_, rfl⟩
  have B2 : Blk w2 g2 [.slice none 0 0, .bool false] 67 := by rw [hw2, hg2, ← hz1]; exact B2
  rw [← hw2] at k2
  have hgg : g1 ≠ g2 := by omega
  have hgw : w.heap.size ≤ g2 := by omega
  replace B1 := B1.nx k2
  have kk := k1.nx k2
  have H2 := h.nx kk
  have HW1 := Lib.hid hw1
  have HG1 := Lib.hid hg1
  have HW2 := Lib.hid hw2
  have HG2 := Lib.hid hg2
  have HF := Lib.hid hf
  have HS := Lib.hid h
  clear hw1 hg1 hw2 hg2 k1 k2 h hf hlen hz1
  have p0 := B1.cell 0 _ rfl
  have p1 := B1.cell 1 _ rfl
  have q0 := B2.cell 0 _ rfl
  have q1 := B2.cell 1 _ rfl
  have z0 := B2.free 0
  have z1 := B2.free 1
  have hgg1 : ¬ g1 = g2 := hgg
  go_enter Tryd.func29, Tryd.ntmps29
  go_upto_region 1 with fail
  rw [← HG2.out, ← HG1.out, ← HW1.out, ← HW2.out]
  go_wp2_with fail
  (with_reducible refine (str_pN _ _ _ _ lim _ H2 hn hc hm (by omega)).mono ?_)
  rintro e w3 ⟨rfl, rfl⟩
  obtain ⟨⟨N, K, E⟩, hT⟩ : ∃ T, T = strN R lim := ⟨_, rfl⟩
  rw [← hT] at hk ⊢
  have HT := Lib.hid hT
  simp only at hk ⊢
  clear hT
  have hkI : (K : Int) ≤ (n : Int) := by omega
  have K0 : (0 : Int) ≤ (K : Int) := by omega
  have hkc : (K : Int) ≤ (c : Int) := by omega
  rcases HF.out with ⟨rfl, rfl⟩ | ⟨x, o, rfl⟩
  · obtain rfl : n = 0 := by omega
    obtain rfl : K = 0 := by omega
    cases ok with
    | false =>
      have HB : Hid ((false && (E == 0)) = false) := Lib.hid (by simp [*])
      go_wp2_with fail
      refine wp_region_held_drew (S := Chg (· ≠ g2) w2) (by kernel_rfl) ((Chg.refl _ w2).drew) (fun hHeld => ?_)
      refine wpAnyH_take (i := 0) (oi := { dst := some 17, op := Op.move (Operand.tmp 6), type := 9, pos := "wire.go:82", after := #[], guard := none }) (v := ?_) rfl (by kernel_rfl) (by kernel_rfl) (by kernel_rfl) (fun _ _ _ h => h) (Or.inl ⟨by rfl, ?hyr1x0q1⟩) (by assumption) ?restr1x0q1
      case hyr1x0q1 => intro wq hSw; (go_simp); (try with_reducible rfl)
      try simp only [Act.put, List.setIfInBounds_toArray, List.set_cons_zero, List.set_cons_succ]
      refine wpAnyH_take (i := 1) (oi := { dst := some 18, op := Op.fieldAddr 67 (Operand.tmp 2) 0, type := 0, pos := "wire.go:82", after := #[], guard := none }) (v := ?_) rfl (by kernel_rfl) (by kernel_rfl) (by kernel_rfl) (fun _ _ _ h => h) (Or.inl ⟨by rfl, ?hyr1x1q4⟩) (by assumption) ?restr1x1q4
      case hyr1x1q4 => intro wq hSw; (go_simp); (try with_reducible rfl)
      try simp only [Act.put, List.setIfInBounds_toArray, List.set_cons_zero, List.set_cons_succ]
      refine wpAnyH_take (i := 2) (oi := { dst := some 19, op := Op.load 23 (Operand.tmp 18), type := 23, pos := "wire.go:82", after := #[{ on := 1, ground := Ground.data }], guard := none }) (v := ?_) rfl (by kernel_rfl) (by kernel_rfl) (by kernel_rfl) (fun _ _ _ h => h) (Or.inl ⟨by rfl, ?hyr1x2q7⟩) (by assumption) ?restr1x2q7
      case hyr1x2q7 => intro wq hSw; (have cq := Chg.cellv hSw p0 hgg; go_simp); (try with_reducible rfl)
      try simp only [Act.put, List.setIfInBounds_toArray, List.set_cons_zero, List.set_cons_succ]
      refine wpAnyH_take (i := 3) (oi := { dst := some 20, op := Op.move (Operand.tmp 7), type := 3, pos := "wire.go:82", after := #[], guard := none }) (v := ?_) rfl (by kernel_rfl) (by kernel_rfl) (by kernel_rfl) (fun _ _ _ h => h) (Or.inl ⟨by rfl, ?hyr1x3q10⟩) (by assumption) ?restr1x3q10
      case hyr1x3q10 => intro wq hSw; (go_simp); (try with_reducible rfl)
      try simp only [Act.put, List.setIfInBounds_toArray, List.set_cons_zero, List.set_cons_succ]
      refine wpAnyH_take (i := 4) (oi := { dst := some 21, op := Op.slice 23 (Operand.tmp 19) (some (Operand.tmp 20)) none none, type := 23, pos := "wire.go:82", after := #[{ on := 2, ground := Ground.data }, { on := 3, ground := Ground.data }], guard := none }) (v := ?_) rfl (by kernel_rfl) (by kernel_rfl) (by kernel_rfl) (fun _ _ _ h => h) (Or.inl ⟨by rfl, ?hyr1x4q13⟩) (by assumption) ?restr1x4q13
      case hyr1x4q13 => intro wq hSw; (go_simp); (try with_reducible rfl)
      try simp only [Act.put, List.setIfInBounds_toArray, List.set_cons_zero, List.set_cons_succ]
      refine wpAnyH_take (i := 5) (oi := { dst := some 22, op := Op.fieldAddr 67 (Operand.tmp 2) 1, type := 0, pos := "wire.go:82", after := #[], guard := none }) (v := ?_) rfl (by kernel_rfl) (by kernel_rfl) (by kernel_rfl) (fun _ _ _ h => h) (Or.inl ⟨by rfl, ?hyr1x5q16⟩) (by assumption) ?restr1x5q16
      case hyr1x5q16 => intro wq hSw; (go_simp); (try with_reducible rfl)
      try simp only [Act.put, List.setIfInBounds_toArray, List.set_cons_zero, List.set_cons_succ]
      refine wpAnyH_take (i := 6) (oi := { dst := some 23, op := Op.load 4 (Operand.tmp 22), type := 4, pos := "wire.go:82", after := #[{ on := 5, ground := Ground.data }], guard := none }) (v := ?_) rfl (by kernel_rfl) (by kernel_rfl) (by kernel_rfl) (fun _ _ _ h => h) (Or.inl ⟨by rfl, ?hyr1x6q19⟩) (by assumption) ?restr1x6q19
      case hyr1x6q19 => intro wq hSw; (have cq := Chg.cellv hSw p1 hgg; go_simp); (try with_reducible rfl)
      try simp only [Act.put, List.setIfInBounds_toArray, List.set_cons_zero, List.set_cons_succ]
      refine wpAnyH_take (i := 7) (oi := { dst := some 24, op := Op.move (Operand.tmp 23), type := 4, pos := "wire.go:82", after := #[{ on := 6, ground := Ground.data }], guard := none }) (v := ?_) rfl (by kernel_rfl) (by kernel_rfl) (by kernel_rfl) (fun _ _ _ h => h) (Or.inl ⟨by rfl, ?hyr1x7q22⟩) (by assumption) ?restr1x7q22
      case hyr1x7q22 => intro wq hSw; (go_simp); (try with_reducible rfl)
      try simp only [Act.put, List.setIfInBounds_toArray, List.set_cons_zero, List.set_cons_succ]
      refine wpAnyH_take (i := 8) (oi := { dst := some 25, op := Op.move (Operand.tmp 8), type := 31, pos := "wire.go:82", after := #[{ on := 7, ground := Ground.guard }, { on := 12, ground := Ground.gcOnly Departure.lateStores }], guard := some (7, true) }) (v := undef) rfl (by kernel_rfl) (by kernel_rfl) (by kernel_rfl) (fun _ _ _ h => h) (Or.inr ⟨by rfl, rfl⟩) (by assumption) ?_
      try simp only [Act.put, List.setIfInBounds_toArray, List.set_cons_zero, List.set_cons_succ]
      refine wpAnyH_take (i := 9) (oi := { dst := some 26, op := Op.binOp BinOp.eql 31 (Operand.tmp 25) (Operand.const (Value.int IntKind.i64 0)) 31, type := 4, pos := "wire.go:82", after := #[{ on := 8, ground := Ground.data }, { on := 7, ground := Ground.guard }, { on := 12, ground := Ground.gcOnly Departure.lateStores }], guard := some (7, true) }) (v := undef) rfl (by kernel_rfl) (by kernel_rfl) (by kernel_rfl) (fun _ _ _ h => h) (Or.inr ⟨by rfl, rfl⟩) (by assumption) ?_
      try simp only [Act.put, List.setIfInBounds_toArray, List.set_cons_zero, List.set_cons_succ]
      refine wpAnyH_take (i := 10) (oi := { dst := some 27, op := Op.pick (Operand.tmp 24) (Operand.tmp 26) (Operand.const (Value.bool false)), type := 4, pos := "wire.go:82", after := #[{ on := 7, ground := Ground.data }, { on := 9, ground := Ground.data }, { on := 12, ground := Ground.gcOnly Departure.lateStores }], guard := none }) (v := ?_) rfl (by kernel_rfl) (by kernel_rfl) (by kernel_rfl) (fun _ _ _ h => h) (Or.inl ⟨by rfl, ?hyr1x10q29⟩) (by assumption) ?restr1x10q29
      case hyr1x10q29 => intro wq hSw; (go_simp); (try with_reducible rfl)
      try simp only [Act.put, List.setIfInBounds_toArray, List.set_cons_zero, List.set_cons_succ]
      refine wpAnyH_take (i := 11) (oi := { dst := some 28, op := Op.build 67 #[(0, Operand.tmp 21), (1, Operand.tmp 27)], type := 67, pos := "wire.go:82", after := #[{ on := 4, ground := Ground.data }, { on := 10, ground := Ground.data }, { on := 12, ground := Ground.gcOnly Departure.lateStores }], guard := none }) (v := ?_) rfl (by kernel_rfl) (by kernel_rfl) (by kernel_rfl) (fun _ _ _ h => h) (Or.inl ⟨by rfl, ?hyr1x11q32⟩) (by assumption) ?restr1x11q32
      case hyr1x11q32 => intro wq hSw; (go_simp); (try with_reducible rfl)
      try simp only [Act.put, List.setIfInBounds_toArray, List.set_cons_zero, List.set_cons_succ]
      refine wpAnyH_take (i := 12) (oi := { dst := some 4, op := Op.assign (Operand.tmp 17), type := 9, pos := "wire.go:82", after := #[{ on := 0, ground := Ground.data }, { on := 7, ground := Ground.chain }, { on := 0, ground := Ground.phase }, { on := 1, ground := Ground.textOnly Departure.lateStores }, { on := 2, ground := Ground.textOnly Departure.lateStores }, { on := 3, ground := Ground.textOnly Departure.lateStores }, { on := 4, ground := Ground.textOnly Departure.lateStoresUnsure }, { on := 5, ground := Ground.textOnly Departure.lateStores }, { on := 6, ground := Ground.textOnly Departure.lateStores }, { on := 7, ground := Ground.textOnly Departure.lateStores }, { on := 8, ground := Ground.textOnly Departure.lateStores }, { on := 9, ground := Ground.textOnly Departure.lateStores }, { on := 10, ground := Ground.textOnly Departure.lateStores }, { on := 11, ground := Ground.textOnly Departure.lateStores }], guard := none }) (v := ?_) rfl (by kernel_rfl) (by kernel_rfl) (by kernel_rfl) (fun _ _ _ h => h) (Or.inl ⟨by rfl, ?hyr1x12q35⟩) (by assumption) ?restr1x12q35
      case hyr1x12q35 => intro wq hSw; (go_simp); (try with_reducible rfl)
      try simp only [Act.put, List.setIfInBounds_toArray, List.set_cons_zero, List.set_cons_succ]
      refine wpAnyH_ready (rs := [13]) (by kernel_rfl) (by simp) ?_
      refine AllReadyH.cons (o := { dst := none, op := Op.store 67 (Operand.tmp 5) (Operand.tmp 28), type := 0, pos := "wire.go:82", after := #[{ on := 11, ground := Ground.data }, { on := 12, ground := Ground.chain }, { on := 0, ground := Ground.phase }, { on := 1, ground := Ground.phase }, { on := 2, ground := Ground.phase }, { on := 3, ground := Ground.phase }, { on := 4, ground := Ground.phase }, { on := 5, ground := Ground.phase }, { on := 6, ground := Ground.phase }, { on := 7, ground := Ground.phase }, { on := 8, ground := Ground.phase }, { on := 9, ground := Ground.phase }, { on := 10, ground := Ground.phase }, { on := 11, ground := Ground.phase }, { on := 12, ground := Ground.phase }], guard := none }) rfl (fun K hK => ?_) AllReadyH.nil
      go_simp
      refine hK.out _ _ ((Chg.setCell (Chg.setCell hHeld _ (fun x hx => hx)) _ (fun x hx => hx))) (fun hHeld => ?_)
      clear hK K
      try simp only [Act.put, List.setIfInBounds_toArray, List.set_cons_zero, List.set_cons_succ]
      refine wpAnyH_done (by kernel_rfl) ?_ _
      go_wp2_with fail
      refine bodyPost_ret (v := .tuple #[.string N, .agg #[.slice none (0) (0), .bool false]]) (by simp [results, Tryd.results29, go_sem, *]) rfl ?_
      rw [← HT.out]
      simp only []
      rw [HB.out]
      have k9 := ((kk.setNew (p := ⟨g2, 0, none⟩) (.slice none (0) (0)) hgw).setNew (p := ⟨g2, 1, none⟩) (.bool false) hgw).drew
      exact rd_done (by rw [List.drop_zero]; exact HS.out.nx k9) (by omega) (by omega) (.inl ⟨rfl, rfl⟩) (fun x' o' hx' => by cases hx' <;> exact ⟨_, rfl⟩) k9
    | true =>
      by_cases hE : E = 0
      · subst hE
        have HB : Hid ((true && ((0 : Nat) == 0)) = true) := Lib.hid (by simp [*])
        go_wp2_with fail
        refine wp_region_held_drew (S := Chg (· ≠ g2) w2) (by kernel_rfl) ((Chg.refl _ w2).drew) (fun hHeld => ?_)
        refine wpAnyH_take (i := 0) (oi := { dst := some 17, op := Op.move (Operand.tmp 6), type := 9, pos := "wire.go:82", after := #[], guard := none }) (v := ?_) rfl (by kernel_rfl) (by kernel_rfl) (by kernel_rfl) (fun _ _ _ h => h) (Or.inl ⟨by rfl, ?hyr2x0q1⟩) (by assumption) ?restr2x0q1
        case hyr2x0q1 => intro wq hSw; (go_simp); (try with_reducible rfl)
        try simp only [Act.put, List.setIfInBounds_toArray, List.set_cons_zero, List.set_cons_succ]
        refine wpAnyH_take (i := 1) (oi := { dst := some 18, op := Op.fieldAddr 67 (Operand.tmp 2) 0, type := 0, pos := "wire.go:82", after := #[], guard := none }) (v := ?_) rfl (by kernel_rfl) (by kernel_rfl) (by kernel_rfl) (fun _ _ _ h => h) (Or.inl ⟨by rfl, ?hyr2x1q4⟩) (by assumption) ?restr2x1q4
        case hyr2x1q4 => intro wq hSw; (go_simp); (try with_reducible rfl)
        try simp only [Act.put, List.setIfInBounds_toArray, List.set_cons_zero, List.set_cons_succ]
        refine wpAnyH_take (i := 2) (oi := { dst := some 19, op := Op.load 23 (Operand.tmp 18), type := 23, pos := "wire.go:82", after := #[{ on := 1, ground := Ground.data }], guard := none }) (v := ?_) rfl (by kernel_rfl) (by kernel_rfl) (by kernel_rfl) (fun _ _ _ h => h) (Or.inl ⟨by rfl, ?hyr2x2q7⟩) (by assumption) ?restr2x2q7
        case hyr2x2q7 => intro wq hSw; (have cq := Chg.cellv hSw p0 hgg; go_simp); (try with_reducible rfl)
        try simp only [Act.put, List.setIfInBounds_toArray, List.set_cons_zero, List.set_cons_succ]
        refine wpAnyH_take (i := 3) (oi := { dst := some 20, op := Op.move (Operand.tmp 7), type := 3, pos := "wire.go:82", after := #[], guard := none }) (v := ?_) rfl (by kernel_rfl) (by kernel_rfl) (by kernel_rfl) (fun _ _ _ h => h) (Or.inl ⟨by rfl, ?hyr2x3q10⟩) (by assumption) ?restr2x3q10
        case hyr2x3q10 => intro wq hSw; (go_simp); (try with_reducible rfl)
        try simp only [Act.put, List.setIfInBounds_toArray, List.set_cons_zero, List.set_cons_succ]
        refine wpAnyH_take (i := 4) (oi := { dst := some 21, op := Op.slice 23 (Operand.tmp 19) (some (Operand.tmp 20)) none none, type := 23, pos := "wire.go:82", after := #[{ on := 2, ground := Ground.data }, { on := 3, ground := Ground.data }], guard := none }) (v := ?_) rfl (by kernel_rfl) (by kernel_rfl) (by kernel_rfl) (fun _ _ _ h => h) (Or.inl ⟨by rfl, ?hyr2x4q13⟩) (by assumption) ?restr2x4q13
        case hyr2x4q13 => intro wq hSw; (go_simp); (try with_reducible rfl)
        try simp only [Act.put, List.setIfInBounds_toArray, List.set_cons_zero, List.set_cons_succ]
        refine wpAnyH_take (i := 5) (oi := { dst := some 22, op := Op.fieldAddr 67 (Operand.tmp 2) 1, type := 0, pos := "wire.go:82", after := #[], guard := none }) (v := ?_) rfl (by kernel_rfl) (by kernel_rfl) (by kernel_rfl) (fun _ _ _ h => h) (Or.inl ⟨by rfl, ?hyr2x5q16⟩) (by assumption) ?restr2x5q16
        case hyr2x5q16 => intro wq hSw; (go_simp); (try with_reducible rfl)
        try simp only [Act.put, List.setIfInBounds_toArray, List.set_cons_zero, List.set_cons_succ]
        refine wpAnyH_take (i := 6) (oi := { dst := some 23, op := Op.load 4 (Operand.tmp 22), type := 4, pos := "wire.go:82", after := #[{ on := 5, ground := Ground.data }], guard := none }) (v := ?_) rfl (by kernel_rfl) (by kernel_rfl) (by kernel_rfl) (fun _ _ _ h => h) (Or.inl ⟨by rfl, ?hyr2x6q19⟩) (by assumption) ?restr2x6q19
        case hyr2x6q19 => intro wq hSw; (have cq := Chg.cellv hSw p1 hgg; go_simp); (try with_reducible rfl)
        try simp only [Act.put, List.setIfInBounds_toArray, List.set_cons_zero, List.set_cons_succ]
        refine wpAnyH_take (i := 7) (oi := { dst := some 24, op := Op.move (Operand.tmp 23), type := 4, pos := "wire.go:82", after := #[{ on := 6, ground := Ground.data }], guard := none }) (v := ?_) rfl (by kernel_rfl) (by kernel_rfl) (by kernel_rfl) (fun _ _ _ h => h) (Or.inl ⟨by rfl, ?hyr2x7q22⟩) (by assumption) ?restr2x7q22
        case hyr2x7q22 => intro wq hSw; (go_simp); (try with_reducible rfl)
        try simp only [Act.put, List.setIfInBounds_toArray, List.set_cons_zero, List.set_cons_succ]
        refine wpAnyH_take (i := 8) (oi := { dst := some 25, op := Op.move (Operand.tmp 8), type := 31, pos := "wire.go:82", after := #[{ on := 7, ground := Ground.guard }, { on := 12, ground := Ground.gcOnly Departure.lateStores }], guard := some (7, true) }) (v := ?_) rfl (by kernel_rfl) (by kernel_rfl) (by kernel_rfl) (fun _ _ _ h => h) (Or.inl ⟨by rfl, ?hyr2x8q25⟩) (by assumption) ?restr2x8q25
        case hyr2x8q25 => intro wq hSw; (go_simp); (try with_reducible rfl)
        try simp only [Act.put, List.setIfInBounds_toArray, List.set_cons_zero, List.set_cons_succ]
        refine wpAnyH_take (i := 9) (oi := { dst := some 26, op := Op.binOp BinOp.eql 31 (Operand.tmp 25) (Operand.const (Value.int IntKind.i64 0)) 31, type := 4, pos := "wire.go:82", after := #[{ on := 8, ground := Ground.data }, { on := 7, ground := Ground.guard }, { on := 12, ground := Ground.gcOnly Departure.lateStores }], guard := some (7, true) }) (v := ?_) rfl (by kernel_rfl) (by kernel_rfl) (by kernel_rfl) (fun _ _ _ h => h) (Or.inl ⟨by rfl, ?hyr2x9q28⟩) (by assumption) ?restr2x9q28
        case hyr2x9q28 => intro wq hSw; (go_simp); (try with_reducible rfl)
        try simp only [Act.put, List.setIfInBounds_toArray, List.set_cons_zero, List.set_cons_succ]
        refine wpAnyH_take (i := 10) (oi := { dst := some 27, op := Op.pick (Operand.tmp 24) (Operand.tmp 26) (Operand.const (Value.bool false)), type := 4, pos := "wire.go:82", after := #[{ on := 7, ground := Ground.data }, { on := 9, ground := Ground.data }, { on := 12, ground := Ground.gcOnly Departure.lateStores }], guard := none }) (v := ?_) rfl (by kernel_rfl) (by kernel_rfl) (by kernel_rfl) (fun _ _ _ h => h) (Or.inl ⟨by rfl, ?hyr2x10q31⟩) (by assumption) ?restr2x10q31
        case hyr2x10q31 => intro wq hSw; (go_simp); (try with_reducible rfl)
        try simp only [Act.put, List.setIfInBounds_toArray, List.set_cons_zero, List.set_cons_succ]
        refine wpAnyH_take (i := 11) (oi := { dst := some 28, op := Op.build 67 #[(0, Operand.tmp 21), (1, Operand.tmp 27)], type := 67, pos := "wire.go:82", after := #[{ on := 4, ground := Ground.data }, { on := 10, ground := Ground.data }, { on := 12, ground := Ground.gcOnly Departure.lateStores }], guard := none }) (v := ?_) rfl (by kernel_rfl) (by kernel_rfl) (by kernel_rfl) (fun _ _ _ h => h) (Or.inl ⟨by rfl, ?hyr2x11q34⟩) (by assumption) ?restr2x11q34
        case hyr2x11q34 => intro wq hSw; (go_simp); (try with_reducible rfl)
        try simp only [Act.put, List.setIfInBounds_toArray, List.set_cons_zero, List.set_cons_succ]
        refine wpAnyH_take (i := 12) (oi := { dst := some 4, op := Op.assign (Operand.tmp 17), type := 9, pos := "wire.go:82", after := #[{ on := 0, ground := Ground.data }, { on := 7, ground := Ground.chain }, { on := 0, ground := Ground.phase }, { on := 1, ground := Ground.textOnly Departure.lateStores }, { on := 2, ground := Ground.textOnly Departure.lateStores }, { on := 3, ground := Ground.textOnly Departure.lateStores }, { on := 4, ground := Ground.textOnly Departure.lateStoresUnsure }, { on := 5, ground := Ground.textOnly Departure.lateStores }, { on := 6, ground := Ground.textOnly Departure.lateStores }, { on := 7, ground := Ground.textOnly Departure.lateStores }, { on := 8, ground := Ground.textOnly Departure.lateStores }, { on := 9, ground := Ground.textOnly Departure.lateStores }, { on := 10, ground := Ground.textOnly Departure.lateStores }, { on := 11, ground := Ground.textOnly Departure.lateStores }], guard := none }) (v := ?_) rfl (by kernel_rfl) (by kernel_rfl) (by kernel_rfl) (fun _ _ _ h => h) (Or.inl ⟨by rfl, ?hyr2x12q37⟩) (by assumption) ?restr2x12q37
        case hyr2x12q37 => intro wq hSw; (go_simp); (try with_reducible rfl)
        try simp only [Act.put, List.setIfInBounds_toArray, List.set_cons_zero, List.set_cons_succ]
        refine wpAnyH_ready (rs := [13]) (by kernel_rfl) (by simp) ?_
        refine AllReadyH.cons (o := { dst := none, op := Op.store 67 (Operand.tmp 5) (Operand.tmp 28), type := 0, pos := "wire.go:82", after := #[{ on := 11, ground := Ground.data }, { on := 12, ground := Ground.chain }, { on := 0, ground := Ground.phase }, { on := 1, ground := Ground.phase }, { on := 2, ground := Ground.phase }, { on := 3, ground := Ground.phase }, { on := 4, ground := Ground.phase }, { on := 5, ground := Ground.phase }, { on := 6, ground := Ground.phase }, { on := 7, ground := Ground.phase }, { on := 8, ground := Ground.phase }, { on := 9, ground := Ground.phase }, { on := 10, ground := Ground.phase }, { on := 11, ground := Ground.phase }, { on := 12, ground := Ground.phase }], guard := none }) rfl (fun K hK => ?_) AllReadyH.nil
        go_simp
        refine hK.out _ _ ((Chg.setCell (Chg.setCell hHeld _ (fun x hx => hx)) _ (fun x hx => hx))) (fun hHeld => ?_)
        clear hK K
        try simp only [Act.put, List.setIfInBounds_toArray, List.set_cons_zero, List.set_cons_succ]
        refine wpAnyH_done (by kernel_rfl) ?_ _
        go_wp2_with fail
        refine bodyPost_ret (v := .tuple #[.string N, .agg #[.slice none (0) (0), .bool true]]) (by simp [results, Tryd.results29, go_sem, *]) rfl ?_
        rw [← HT.out]
        simp only []
        rw [HB.out]
        have k9 := ((kk.setNew (p := ⟨g2, 0, none⟩) (.slice none (0) (0)) hgw).setNew (p := ⟨g2, 1, none⟩) (.bool true) hgw).drew
        exact rd_done (by rw [List.drop_zero]; exact HS.out.nx k9) (by omega) (by omega) (.inl ⟨rfl, rfl⟩) (fun x' o' hx' => by cases hx' <;> exact ⟨_, rfl⟩) k9
      · have hEI : ((E : Int) == 0) = false := beq_eq_false_iff_ne.2 (by omega)
        have HB : Hid ((true && (E == 0)) = false) := Lib.hid (by simp [*])
        go_wp2_with fail
        refine wp_region_held_drew (S := Chg (· ≠ g2) w2) (by kernel_rfl) ((Chg.refl _ w2).drew) (fun hHeld => ?_)
        refine wpAnyH_take (i := 0) (oi := { dst := some 17, op := Op.move (Operand.tmp 6), type := 9, pos := "wire.go:82", after := #[], guard := none }) (v := ?_) rfl (by kernel_rfl) (by kernel_rfl) (by kernel_rfl) (fun _ _ _ h => h) (Or.inl ⟨by rfl, ?hyr3x0q1⟩) (by assumption) ?restr3x0q1
        case hyr3x0q1 => intro wq hSw; (go_simp); (try with_reducible rfl)
        try simp only [Act.put, List.setIfInBounds_toArray, List.set_cons_zero, List.set_cons_succ]
        refine wpAnyH_take (i := 1) (oi := { dst := some 18, op := Op.fieldAddr 67 (Operand.tmp 2) 0, type := 0, pos := "wire.go:82", after := #[], guard := none }) (v := ?_) rfl (by kernel_rfl) (by kernel_rfl) (by kernel_rfl) (fun _ _ _ h => h) (Or.inl ⟨by rfl, ?hyr3x1q4⟩) (by assumption) ?restr3x1q4
        case hyr3x1q4 => intro wq hSw; (go_simp); (try with_reducible rfl)
        try simp only [Act.put, List.setIfInBounds_toArray, List.set_cons_zero, List.set_cons_succ]
        refine wpAnyH_take (i := 2) (oi := { dst := some 19, op := Op.load 23 (Operand.tmp 18), type := 23, pos := "wire.go:82", after := #[{ on := 1, ground := Ground.data }], guard := none }) (v := ?_) rfl (by kernel_rfl) (by kernel_rfl) (by kernel_rfl) (fun _ _ _ h => h) (Or.inl ⟨by rfl, ?hyr3x2q7⟩) (by assumption) ?restr3x2q7
        case hyr3x2q7 => intro wq hSw; (have cq := Chg.cellv hSw p0 hgg; go_simp); (try with_reducible rfl)
        try simp only [Act.put, List.setIfInBounds_toArray, List.set_cons_zero, List.set_cons_succ]
        refine wpAnyH_take (i := 3) (oi := { dst := some 20, op := Op.move (Operand.tmp 7), type := 3, pos := "wire.go:82", after := #[], guard := none }) (v := ?_) rfl (by kernel_rfl) (by kernel_rfl) (by kernel_rfl) (fun _ _ _ h => h) (Or.inl ⟨by rfl, ?hyr3x3q10⟩) (by assumption) ?restr3x3q10
        case hyr3x3q10 => intro wq hSw; (go_simp); (try with_reducible rfl)
        try simp only [Act.put, List.setIfInBounds_toArray, List.set_cons_zero, List.set_cons_succ]
        refine wpAnyH_take (i := 4) (oi := { dst := some 21, op := Op.slice 23 (Operand.tmp 19) (some (Operand.tmp 20)) none none, type := 23, pos := "wire.go:82", after := #[{ on := 2, ground := Ground.data }, { on := 3, ground := Ground.data }], guard := none }) (v := ?_) rfl (by kernel_rfl) (by kernel_rfl) (by kernel_rfl) (fun _ _ _ h => h) (Or.inl ⟨by rfl, ?hyr3x4q13⟩) (by assumption) ?restr3x4q13
        case hyr3x4q13 => intro wq hSw; (go_simp); (try with_reducible rfl)
        try simp only [Act.put, List.setIfInBounds_toArray, List.set_cons_zero, List.set_cons_succ]
        refine wpAnyH_take (i := 5) (oi := { dst := some 22, op := Op.fieldAddr 67 (Operand.tmp 2) 1, type := 0, pos := "wire.go:82", after := #[], guard := none }) (v := ?_) rfl (by kernel_rfl) (by kernel_rfl) (by kernel_rfl) (fun _ _ _ h => h) (Or.inl ⟨by rfl, ?hyr3x5q16⟩) (by assumption) ?restr3x5q16
        case hyr3x5q16 => intro wq hSw; (go_simp); (try with_reducible rfl)
        try simp only [Act.put, List.setIfInBounds_toArray, List.set_cons_zero, List.set_cons_succ]
        refine wpAnyH_take (i := 6) (oi := { dst := some 23, op := Op.load 4 (Operand.tmp 22), type := 4, pos := "wire.go:82", after := #[{ on := 5, ground := Ground.data }], guard := none }) (v := ?_) rfl (by kernel_rfl) (by kernel_rfl) (by kernel_rfl) (fun _ _ _ h => h) (Or.inl ⟨by rfl, ?hyr3x6q19⟩) (by assumption) ?restr3x6q19
        case hyr3x6q19 => intro wq hSw; (have cq := Chg.cellv hSw p1 hgg; go_simp); (try with_reducible rfl)
        try simp only [Act.put, List.setIfInBounds_toArray, List.set_cons_zero, List.set_cons_succ]
        refine wpAnyH_take (i := 7) (oi := { dst := some 24, op := Op.move (Operand.tmp 23), type := 4, pos := "wire.go:82", after := #[{ on := 6, ground := Ground.data }], guard := none }) (v := ?_) rfl (by kernel_rfl) (by kernel_rfl) (by kernel_rfl) (fun _ _ _ h => h) (Or.inl ⟨by rfl, ?hyr3x7q22⟩) (by assumption) ?restr3x7q22
        case hyr3x7q22 => intro wq hSw; (go_simp); (try with_reducible rfl)
        try simp only [Act.put, List.setIfInBounds_toArray, List.set_cons_zero, List.set_cons_succ]
        refine wpAnyH_take (i := 8) (oi := { dst := some 25, op := Op.move (Operand.tmp 8), type := 31, pos := "wire.go:82", after := #[{ on := 7, ground := Ground.guard }, { on := 12, ground := Ground.gcOnly Departure.lateStores }], guard := some (7, true) }) (v := ?_) rfl (by kernel_rfl) (by kernel_rfl) (by kernel_rfl) (fun _ _ _ h => h) (Or.inl ⟨by rfl, ?hyr3x8q25⟩) (by assumption) ?restr3x8q25
        case hyr3x8q25 => intro wq hSw; (go_simp); (try with_reducible rfl)
        try simp only [Act.put, List.setIfInBounds_toArray, List.set_cons_zero, List.set_cons_succ]
        refine wpAnyH_take (i := 9) (oi := { dst := some 26, op := Op.binOp BinOp.eql 31 (Operand.tmp 25) (Operand.const (Value.int IntKind.i64 0)) 31, type := 4, pos := "wire.go:82", after := #[{ on := 8, ground := Ground.data }, { on := 7, ground := Ground.guard }, { on := 12, ground := Ground.gcOnly Departure.lateStores }], guard := some (7, true) }) (v := ?_) rfl (by kernel_rfl) (by kernel_rfl) (by kernel_rfl) (fun _ _ _ h => h) (Or.inl ⟨by rfl, ?hyr3x9q28⟩) (by assumption) ?restr3x9q28
        case hyr3x9q28 => intro wq hSw; (go_simp); (try with_reducible rfl)
        try simp only [Act.put, List.setIfInBounds_toArray, List.set_cons_zero, List.set_cons_succ]
        refine wpAnyH_take (i := 10) (oi := { dst := some 27, op := Op.pick (Operand.tmp 24) (Operand.tmp 26) (Operand.const (Value.bool false)), type := 4, pos := "wire.go:82", after := #[{ on := 7, ground := Ground.data }, { on := 9, ground := Ground.data }, { on := 12, ground := Ground.gcOnly Departure.lateStores }], guard := none }) (v := ?_) rfl (by kernel_rfl) (by kernel_rfl) (by kernel_rfl) (fun _ _ _ h => h) (Or.inl ⟨by rfl, ?hyr3x10q31⟩) (by assumption) ?restr3x10q31
        case hyr3x10q31 => intro wq hSw; (go_simp); (try with_reducible rfl)
        try simp only [Act.put, List.setIfInBounds_toArray, List.set_cons_zero, List.set_cons_succ]
        refine wpAnyH_take (i := 11) (oi := { dst := some 28, op := Op.build 67 #[(0, Operand.tmp 21), (1, Operand.tmp 27)], type := 67, pos := "wire.go:82", after := #[{ on := 4, ground := Ground.data }, { on := 10, ground := Ground.data }, { on := 12, ground := Ground.gcOnly Departure.lateStores }], guard := none }) (v := ?_) rfl (by kernel_rfl) (by kernel_rfl) (by kernel_rfl) (fun _ _ _ h => h) (Or.inl ⟨by rfl, ?hyr3x11q34⟩) (by assumption) ?restr3x11q34
        case hyr3x11q34 => intro wq hSw; (go_simp); (try with_reducible rfl)
        try simp only [Act.put, List.setIfInBounds_toArray, List.set_cons_zero, List.set_cons_succ]
        refine wpAnyH_take (i := 12) (oi := { dst := some 4, op := Op.assign (Operand.tmp 17), type := 9, pos := "wire.go:82", after := #[{ on := 0, ground := Ground.data }, { on := 7, ground := Ground.chain }, { on := 0, ground := Ground.phase }, { on := 1, ground := Ground.textOnly Departure.lateStores }, { on := 2, ground := Ground.textOnly Departure.lateStores }, { on := 3, ground := Ground.textOnly Departure.lateStores }, { on := 4, ground := Ground.textOnly Departure.lateStoresUnsure }, { on := 5, ground := Ground.textOnly Departure.lateStores }, { on := 6, ground := Ground.textOnly Departure.lateStores }, { on := 7, ground := Ground.textOnly Departure.lateStores }, { on := 8, ground := Ground.textOnly Departure.lateStores }, { on := 9, ground := Ground.textOnly Departure.lateStores }, { on := 10, ground := Ground.textOnly Departure.lateStores }, { on := 11, ground := Ground.textOnly Departure.lateStores }], guard := none }) (v := ?_) rfl (by kernel_rfl) (by kernel_rfl) (by kernel_rfl) (fun _ _ _ h => h) (Or.inl ⟨by rfl, ?hyr3x12q37⟩) (by assumption) ?restr3x12q37
        case hyr3x12q37 => intro wq hSw; (go_simp); (try with_reducible rfl)
        try simp only [Act.put, List.setIfInBounds_toArray, List.set_cons_zero, List.set_cons_succ]
        refine wpAnyH_ready (rs := [13]) (by kernel_rfl) (by simp) ?_
        refine AllReadyH.cons (o := { dst := none, op := Op.store 67 (Operand.tmp 5) (Operand.tmp 28), type := 0, pos := "wire.go:82", after := #[{ on := 11, ground := Ground.data }, { on := 12, ground := Ground.chain }, { on := 0, ground := Ground.phase }, { on := 1, ground := Ground.phase }, { on := 2, ground := Ground.phase }, { on := 3, ground := Ground.phase }, { on := 4, ground := Ground.phase }, { on := 5, ground := Ground.phase }, { on := 6, ground := Ground.phase }, { on := 7, ground := Ground.phase }, { on := 8, ground := Ground.phase }, { on := 9, ground := Ground.phase }, { on := 10, ground := Ground.phase }, { on := 11, ground := Ground.phase }, { on := 12, ground := Ground.phase }], guard := none }) rfl (fun K hK => ?_) AllReadyH.nil
        go_simp
        refine hK.out _ _ ((Chg.setCell (Chg.setCell hHeld _ (fun x hx => hx)) _ (fun x hx => hx))) (fun hHeld => ?_)
        clear hK K
        try simp only [Act.put, List.setIfInBounds_toArray, List.set_cons_zero, List.set_cons_succ]
        refine wpAnyH_done (by kernel_rfl) ?_ _
        go_wp2_with fail
        refine bodyPost_ret (v := .tuple #[.string N, .agg #[.slice none (0) (0), .bool false]]) (by simp [results, Tryd.results29, go_sem, *]) rfl ?_
        rw [← HT.out]
        simp only []
        rw [HB.out]
        have k9 := ((kk.setNew (p := ⟨g2, 0, none⟩) (.slice none (0) (0)) hgw).setNew (p := ⟨g2, 1, none⟩) (.bool false) hgw).drew
        exact rd_done (by rw [List.drop_zero]; exact HS.out.nx k9) (by omega) (by omega) (.inl ⟨rfl, rfl⟩) (fun x' o' hx' => by cases hx' <;> exact ⟨_, rfl⟩) k9
  · by_cases hcK : c = K
    · obtain rfl : n = K := by omega
      obtain rfl : c = n := by omega
      cases ok with
      | false =>
        have HB : Hid ((false && (E == 0)) = false) := Lib.hid (by simp [*])
        go_wp2_with fail
        refine wp_region_held_drew (S := Chg (· ≠ g2) w2) (by kernel_rfl) ((Chg.refl _ w2).drew) (fun hHeld => ?_)
        refine wpAnyH_take (i := 0) (oi := { dst := some 17, op := Op.move (Operand.tmp 6), type := 9, pos := "wire.go:82", after := #[], guard := none }) (v := ?_) rfl (by kernel_rfl) (by kernel_rfl) (by kernel_rfl) (fun _ _ _ h => h) (Or.inl ⟨by rfl, ?hyr4x0q1⟩) (by assumption) ?restr4x0q1
        case hyr4x0q1 => intro wq hSw; (go_simp); (try with_reducible rfl)
        try simp only [Act.put, List.setIfInBounds_toArray, List.set_cons_zero, List.set_cons_succ]
        refine wpAnyH_take (i := 1) (oi := { dst := some 18, op := Op.fieldAddr 67 (Operand.tmp 2) 0, type := 0, pos := "wire.go:82", after := #[], guard := none }) (v := ?_) rfl (by kernel_rfl) (by kernel_rfl) (by kernel_rfl) (fun _ _ _ h => h) (Or.inl ⟨by rfl, ?hyr4x1q4⟩) (by assumption) ?restr4x1q4
        case hyr4x1q4 => intro wq hSw; (go_simp); (try with_reducible rfl)
        try simp only [Act.put, List.setIfInBounds_toArray, List.set_cons_zero, List.set_cons_succ]
        refine wpAnyH_take (i := 2) (oi := { dst := some 19, op := Op.load 23 (Operand.tmp 18), type := 23, pos := "wire.go:82", after := #[{ on := 1, ground := Ground.data }], guard := none }) (v := ?_) rfl (by kernel_rfl) (by kernel_rfl) (by kernel_rfl) (fun _ _ _ h => h) (Or.inl ⟨by rfl, ?hyr4x2q7⟩) (by assumption) ?restr4x2q7
        case hyr4x2q7 => intro wq hSw; (have cq := Chg.cellv hSw p0 hgg; go_simp); (try with_reducible rfl)
        try simp only [Act.put, List.setIfInBounds_toArray, List.set_cons_zero, List.set_cons_succ]
        refine wpAnyH_take (i := 3) (oi := { dst := some 20, op := Op.move (Operand.tmp 7), type := 3, pos := "wire.go:82", after := #[], guard := none }) (v := ?_) rfl (by kernel_rfl) (by kernel_rfl) (by kernel_rfl) (fun _ _ _ h => h) (Or.inl ⟨by rfl, ?hyr4x3q10⟩) (by assumption) ?restr4x3q10
        case hyr4x3q10 => intro wq hSw; (go_simp); (try with_reducible rfl)
        try simp only [Act.put, List.setIfInBounds_toArray, List.set_cons_zero, List.set_cons_succ]
        refine wpAnyH_take (i := 4) (oi := { dst := some 21, op := Op.slice 23 (Operand.tmp 19) (some (Operand.tmp 20)) none none, type := 23, pos := "wire.go:82", after := #[{ on := 2, ground := Ground.data }, { on := 3, ground := Ground.data }], guard := none }) (v := ?_) rfl (by kernel_rfl) (by kernel_rfl) (by kernel_rfl) (fun _ _ _ h => h) (Or.inl ⟨by rfl, ?hyr4x4q13⟩) (by assumption) ?restr4x4q13
        case hyr4x4q13 => intro wq hSw; (go_simp); (try with_reducible rfl)
        try simp only [Act.put, List.setIfInBounds_toArray, List.set_cons_zero, List.set_cons_succ]
        refine wpAnyH_take (i := 5) (oi := { dst := some 22, op := Op.fieldAddr 67 (Operand.tmp 2) 1, type := 0, pos := "wire.go:82", after := #[], guard := none }) (v := ?_) rfl (by kernel_rfl) (by kernel_rfl) (by kernel_rfl) (fun _ _ _ h => h) (Or.inl ⟨by rfl, ?hyr4x5q16⟩) (by assumption) ?restr4x5q16
        case hyr4x5q16 => intro wq hSw; (go_simp); (try with_reducible rfl)
        try simp only [Act.put, List.setIfInBounds_toArray, List.set_cons_zero, List.set_cons_succ]
        refine wpAnyH_take (i := 6) (oi := { dst := some 23, op := Op.load 4 (Operand.tmp 22), type := 4, pos := "wire.go:82", after := #[{ on := 5, ground := Ground.data }], guard := none }) (v := ?_) rfl (by kernel_rfl) (by kernel_rfl) (by kernel_rfl) (fun _ _ _ h => h) (Or.inl ⟨by rfl, ?hyr4x6q19⟩) (by assumption) ?restr4x6q19
        case hyr4x6q19 => intro wq hSw; (have cq := Chg.cellv hSw p1 hgg; go_simp); (try with_reducible rfl)
        try simp only [Act.put, List.setIfInBounds_toArray, List.set_cons_zero, List.set_cons_succ]
        refine wpAnyH_take (i := 7) (oi := { dst := some 24, op := Op.move (Operand.tmp 23), type := 4, pos := "wire.go:82", after := #[{ on := 6, ground := Ground.data }], guard := none }) (v := ?_) rfl (by kernel_rfl) (by kernel_rfl) (by kernel_rfl) (fun _ _ _ h => h) (Or.inl ⟨by rfl, ?hyr4x7q22⟩) (by assumption) ?restr4x7q22
        case hyr4x7q22 => intro wq hSw; (go_simp); (try with_reducible rfl)
        try simp only [Act.put, List.setIfInBounds_toArray, List.set_cons_zero, List.set_cons_succ]
        refine wpAnyH_take (i := 8) (oi := { dst := some 25, op := Op.move (Operand.tmp 8), type := 31, pos := "wire.go:82", after := #[{ on := 7, ground := Ground.guard }, { on := 12, ground := Ground.gcOnly Departure.lateStores }], guard := some (7, true) }) (v := undef) rfl (by kernel_rfl) (by kernel_rfl) (by kernel_rfl) (fun _ _ _ h => h) (Or.inr ⟨by rfl, rfl⟩) (by assumption) ?_
        try simp only [Act.put, List.setIfInBounds_toArray, List.set_cons_zero, List.set_cons_succ]
        refine wpAnyH_take (i := 9) (oi := { dst := some 26, op := Op.binOp BinOp.eql 31 (Operand.tmp 25) (Operand.const (Value.int IntKind.i64 0)) 31, type := 4, pos := "wire.go:82", after := #[{ on := 8, ground := Ground.data }, { on := 7, ground := Ground.guard }, { on := 12, ground := Ground.gcOnly Departure.lateStores }], guard := some (7, true) }) (v := undef) rfl (by kernel_rfl) (by kernel_rfl) (by kernel_rfl) (fun _ _ _ h => h) (Or.inr ⟨by rfl, rfl⟩) (by assumption) ?_
        try simp only [Act.put, List.setIfInBounds_toArray, List.set_cons_zero, List.set_cons_succ]
        refine wpAnyH_take (i := 10) (oi := { dst := some 27, op := Op.pick (Operand.tmp 24) (Operand.tmp 26) (Operand.const (Value.bool false)), type := 4, pos := "wire.go:82", after := #[{ on := 7, ground := Ground.data }, { on := 9, ground := Ground.data }, { on := 12, ground := Ground.gcOnly Departure.lateStores }], guard := none }) (v := ?_) rfl (by kernel_rfl) (by kernel_rfl) (by kernel_rfl) (fun _ _ _ h => h) (Or.inl ⟨by rfl, ?hyr4x10q29⟩) (by assumption) ?restr4x10q29
        case hyr4x10q29 => intro wq hSw; (go_simp); (try with_reducible rfl)
        try simp only [Act.put, List.setIfInBounds_toArray, List.set_cons_zero, List.set_cons_succ]
        refine wpAnyH_take (i := 11) (oi := { dst := some 28, op := Op.build 67 #[(0, Operand.tmp 21), (1, Operand.tmp 27)], type := 67, pos := "wire.go:82", after := #[{ on := 4, ground := Ground.data }, { on := 10, ground := Ground.data }, { on := 12, ground := Ground.gcOnly Departure.lateStores }], guard := none }) (v := ?_) rfl (by kernel_rfl) (by kernel_rfl) (by kernel_rfl) (fun _ _ _ h => h) (Or.inl ⟨by rfl, ?hyr4x11q32⟩) (by assumption) ?restr4x11q32
        case hyr4x11q32 => intro wq hSw; (go_simp); (try with_reducible rfl)
        try simp only [Act.put, List.setIfInBounds_toArray, List.set_cons_zero, List.set_cons_succ]
        refine wpAnyH_take (i := 12) (oi := { dst := some 4, op := Op.assign (Operand.tmp 17), type := 9, pos := "wire.go:82", after := #[{ on := 0, ground := Ground.data }, { on := 7, ground := Ground.chain }, { on := 0, ground := Ground.phase }, { on := 1, ground := Ground.textOnly Departure.lateStores }, { on := 2, ground := Ground.textOnly Departure.lateStores }, { on := 3, ground := Ground.textOnly Departure.lateStores }, { on := 4, ground := Ground.textOnly Departure.lateStoresUnsure }, { on := 5, ground := Ground.textOnly Departure.lateStores }, { on := 6, ground := Ground.textOnly Departure.lateStores }, { on := 7, ground := Ground.textOnly Departure.lateStores }, { on := 8, ground := Ground.textOnly Departure.lateStores }, { on := 9, ground := Ground.textOnly Departure.lateStores }, { on := 10, ground := Ground.textOnly Departure.lateStores }, { on := 11, ground := Ground.textOnly Departure.lateStores }], guard := none }) (v := ?_) rfl (by kernel_rfl) (by kernel_rfl) (by kernel_rfl) (fun _ _ _ h => h) (Or.inl ⟨by rfl, ?hyr4x12q35⟩) (by assumption) ?restr4x12q35
        case hyr4x12q35 => intro wq hSw; (go_simp); (try with_reducible rfl)
        try simp only [Act.put, List.setIfInBounds_toArray, List.set_cons_zero, List.set_cons_succ]
        refine wpAnyH_ready (rs := [13]) (by kernel_rfl) (by simp) ?_
        refine AllReadyH.cons (o := { dst := none, op := Op.store 67 (Operand.tmp 5) (Operand.tmp 28), type := 0, pos := "wire.go:82", after := #[{ on := 11, ground := Ground.data }, { on := 12, ground := Ground.chain }, { on := 0, ground := Ground.phase }, { on := 1, ground := Ground.phase }, { on := 2, ground := Ground.phase }, { on := 3, ground := Ground.phase }, { on := 4, ground := Ground.phase }, { on := 5, ground := Ground.phase }, { on := 6, ground := Ground.phase }, { on := 7, ground := Ground.phase }, { on := 8, ground := Ground.phase }, { on := 9, ground := Ground.phase }, { on := 10, ground := Ground.phase }, { on := 11, ground := Ground.phase }, { on := 12, ground := Ground.phase }], guard := none }) rfl (fun K hK => ?_) AllReadyH.nil
        go_simp
        refine hK.out _ _ ((Chg.setCell (Chg.setCell hHeld _ (fun x hx => hx)) _ (fun x hx => hx))) (fun hHeld => ?_)
        clear hK K
        try simp only [Act.put, List.setIfInBounds_toArray, List.set_cons_zero, List.set_cons_succ]
        refine wpAnyH_done (by kernel_rfl) ?_ _
        go_wp2_with fail
        refine bodyPost_ret (v := .tuple #[.string N, .agg #[.slice (some ⟨x, o, none⟩) (0) (0), .bool false]]) (by simp [results, Tryd.results29, go_sem, *]) rfl ?_
        rw [← HT.out]
        simp only []
        rw [HB.out]
        have k9 := ((kk.setNew (p := ⟨g2, 0, none⟩) (.slice (some ⟨x, o, none⟩) (0) (0)) hgw).setNew (p := ⟨g2, 1, none⟩) (.bool false) hgw).drew
        exact rd_done (sl_end (HS.out.nx k9) (Nat.le_refl _)) (by omega) (by omega) (.inr ⟨_, _, rfl⟩) (fun x' o' hx' => by cases hx' <;> exact ⟨_, rfl⟩) k9
      | true =>
        by_cases hE : E = 0
        · subst hE
          have HB : Hid ((true && ((0 : Nat) == 0)) = true) := Lib.hid (by simp [*])
          go_wp2_with fail
          refine wp_region_held_drew (S := Chg (· ≠ g2) w2) (by kernel_rfl) ((Chg.refl _ w2).drew) (fun hHeld => ?_)
          refine wpAnyH_take (i := 0) (oi := { dst := some 17, op := Op.move (Operand.tmp 6), type := 9, pos := "wire.go:82", after := #[], guard := none }) (v := ?_) rfl (by kernel_rfl) (by kernel_rfl) (by kernel_rfl) (fun _ _ _ h => h) (Or.inl ⟨by rfl, ?hyr5x0q1⟩) (by assumption) ?restr5x0q1
          case hyr5x0q1 => intro wq hSw; (go_simp); (try with_reducible rfl)
          try simp only [Act.put, List.setIfInBounds_toArray, List.set_cons_zero, List.set_cons_succ]
          refine wpAnyH_take (i := 1) (oi := { dst := some 18, op := Op.fieldAddr 67 (Operand.tmp 2) 0, type := 0, pos := "wire.go:82", after := #[], guard := none }) (v := ?_) rfl (by kernel_rfl) (by kernel_rfl) (by kernel_rfl) (fun _ _ _ h => h) (Or.inl ⟨by rfl, ?hyr5x1q4⟩) (by assumption) ?restr5x1q4
          case hyr5x1q4 => intro wq hSw; (go_simp); (try with_reducible rfl)
          try simp only [Act.put, List.setIfInBounds_toArray, List.set_cons_zero, List.set_cons_succ]
          refine wpAnyH_take (i := 2) (oi := { dst := some 19, op := Op.load 23 (Operand.tmp 18), type := 23, pos := "wire.go:82", after := #[{ on := 1, ground := Ground.data }], guard := none }) (v := ?_) rfl (by kernel_rfl) (by kernel_rfl) (by kernel_rfl) (fun _ _ _ h => h) (Or.inl ⟨by rfl, ?hyr5x2q7⟩) (by assumption) ?restr5x2q7
          case hyr5x2q7 => intro wq hSw; (have cq := Chg.cellv hSw p0 hgg; go_simp); (try with_reducible rfl)
          try simp only [Act.put, List.setIfInBounds_toArray, List.set_cons_zero, List.set_cons_succ]
          refine wpAnyH_take (i := 3) (oi := { dst := some 20, op := Op.move (Operand.tmp 7), type := 3, pos := "wire.go:82", after := #[], guard := none }) (v := ?_) rfl (by kernel_rfl) (by kernel_rfl) (by kernel_rfl) (fun _ _ _ h => h) (Or.inl ⟨by rfl, ?hyr5x3q10⟩) (by assumption) ?restr5x3q10
          case hyr5x3q10 => intro wq hSw; (go_simp); (try with_reducible rfl)
          try simp only [Act.put, List.setIfInBounds_toArray, List.set_cons_zero, List.set_cons_succ]
          refine wpAnyH_take (i := 4) (oi := { dst := some 21, op := Op.slice 23 (Operand.tmp 19) (some (Operand.tmp 20)) none none, type := 23, pos := "wire.go:82", after := #[{ on := 2, ground := Ground.data }, { on := 3, ground := Ground.data }], guard := none }) (v := ?_) rfl (by kernel_rfl) (by kernel_rfl) (by kernel_rfl) (fun _ _ _ h => h) (Or.inl ⟨by rfl, ?hyr5x4q13⟩) (by assumption) ?restr5x4q13
          case hyr5x4q13 => intro wq hSw; (go_simp); (try with_reducible rfl)
          try simp only [Act.put, List.setIfInBounds_toArray, List.set_cons_zero, List.set_cons_succ]
          refine wpAnyH_take (i := 5) (oi := { dst := some 22, op := Op.fieldAddr 67 (Operand.tmp 2) 1, type := 0, pos := "wire.go:82", after := #[], guard := none }) (v := ?_) rfl (by kernel_rfl) (by kernel_rfl) (by kernel_rfl) (fun _ _ _ h => h) (Or.inl ⟨by rfl, ?hyr5x5q16⟩) (by assumption) ?restr5x5q16
          case hyr5x5q16 => intro wq hSw; (go_simp); (try with_reducible rfl)
          try simp only [Act.put, List.setIfInBounds_toArray, List.set_cons_zero, List.set_cons_succ]
          refine wpAnyH_take (i := 6) (oi := { dst := some 23, op := Op.load 4 (Operand.tmp 22), type := 4, pos := "wire.go:82", after := #[{ on := 5, ground := Ground.data }], guard := none }) (v := ?_) rfl (by kernel_rfl) (by kernel_rfl) (by kernel_rfl) (fun _ _ _ h => h) (Or.inl ⟨by rfl, ?hyr5x6q19⟩) (by assumption) ?restr5x6q19
          case hyr5x6q19 => intro wq hSw; (have cq := Chg.cellv hSw p1 hgg; go_simp); (try with_reducible rfl)
          try simp only [Act.put, List.setIfInBounds_toArray, List.set_cons_zero, List.set_cons_succ]
          refine wpAnyH_take (i := 7) (oi := { dst := some 24, op := Op.move (Operand.tmp 23), type := 4, pos := "wire.go:82", after := #[{ on := 6, ground := Ground.data }], guard := none }) (v := ?_) rfl (by kernel_rfl) (by kernel_rfl) (by kernel_rfl) (fun _ _ _ h => h) (Or.inl ⟨by rfl, ?hyr5x7q22⟩) (by assumption) ?restr5x7q22
          case hyr5x7q22 => intro wq hSw; (go_simp); (try with_reducible rfl)
          try simp only [Act.put, List.setIfInBounds_toArray, List.set_cons_zero, List.set_cons_succ]
          refine wpAnyH_take (i := 8) (oi := { dst := some 25, op := Op.move (Operand.tmp 8), type := 31, pos := "wire.go:82", after := #[{ on := 7, ground := Ground.guard }, { on := 12, ground := Ground.gcOnly Departure.lateStores }], guard := some (7, true) }) (v := ?_) rfl (by kernel_rfl) (by kernel_rfl) (by kernel_rfl) (fun _ _ _ h => h) (Or.inl ⟨by rfl, ?hyr5x8q25⟩) (by assumption) ?restr5x8q25
          case hyr5x8q25 => intro wq hSw; (go_simp); (try with_reducible rfl)
          try simp only [Act.put, List.setIfInBounds_toArray, List.set_cons_zero, List.set_cons_succ]
          refine wpAnyH_take (i := 9) (oi := { dst := some 26, op := Op.binOp BinOp.eql 31 (Operand.tmp 25) (Operand.const (Value.int IntKind.i64 0)) 31, type := 4, pos := "wire.go:82", after := #[{ on := 8, ground := Ground.data }, { on := 7, ground := Ground.guard }, { on := 12, ground := Ground.gcOnly Departure.lateStores }], guard := some (7, true) }) (v := ?_) rfl (by kernel_rfl) (by kernel_rfl) (by kernel_rfl) (fun _ _ _ h => h) (Or.inl ⟨by rfl, ?hyr5x9q28⟩) (by assumption) ?restr5x9q28
          case hyr5x9q28 => intro wq hSw; (go_simp); (try with_reducible rfl)
          try simp only [Act.put, List.setIfInBounds_toArray, List.set_cons_zero, List.set_cons_succ]
          refine wpAnyH_take (i := 10) (oi := { dst := some 27, op := Op.pick (Operand.tmp 24) (Operand.tmp 26) (Operand.const (Value.bool false)), type := 4, pos := "wire.go:82", after := #[{ on := 7, ground := Ground.data }, { on := 9, ground := Ground.data }, { on := 12, ground := Ground.gcOnly Departure.lateStores }], guard := none }) (v := ?_) rfl (by kernel_rfl) (by kernel_rfl) (by kernel_rfl) (fun _ _ _ h => h) (Or.inl ⟨by rfl, ?hyr5x10q31⟩) (by assumption) ?restr5x10q31
          case hyr5x10q31 => intro wq hSw; (go_simp); (try with_reducible rfl)
          try simp only [Act.put, List.setIfInBounds_toArray, List.set_cons_zero, List.set_cons_succ]
          refine wpAnyH_take (i := 11) (oi := { dst := some 28, op := Op.build 67 #[(0, Operand.tmp 21), (1, Operand.tmp 27)], type := 67, pos := "wire.go:82", after := #[{ on := 4, ground := Ground.data }, { on := 10, ground := Ground.data }, { on := 12, ground := Ground.gcOnly Departure.lateStores }], guard := none }) (v := ?_) rfl (by kernel_rfl) (by kernel_rfl) (by kernel_rfl) (fun _ _ _ h => h) (Or.inl ⟨by rfl, ?hyr5x11q34⟩) (by assumption) ?restr5x11q34
          case hyr5x11q34 => intro wq hSw; (go_simp); (try with_reducible rfl)
          try simp only [Act.put, List.setIfInBounds_toArray, List.set_cons_zero, List.set_cons_succ]
          refine wpAnyH_take (i := 12) (oi := { dst := some 4, op := Op.assign (Operand.tmp 17), type := 9, pos := "wire.go:82", after := #[{ on := 0, ground := Ground.data }, { on := 7, ground := Ground.chain }, { on := 0, ground := Ground.phase }, { on := 1, ground := Ground.textOnly Departure.lateStores }, { on := 2, ground := Ground.textOnly Departure.lateStores }, { on := 3, ground := Ground.textOnly Departure.lateStores }, { on := 4, ground := Ground.textOnly Departure.lateStoresUnsure }, { on := 5, ground := Ground.textOnly Departure.lateStores }, { on := 6, ground := Ground.textOnly Departure.lateStores }, { on := 7, ground := Ground.textOnly Departure.lateStores }, { on := 8, ground := Ground.textOnly Departure.lateStores }, { on := 9, ground := Ground.textOnly Departure.lateStores }, { on := 10, ground := Ground.textOnly Departure.lateStores }, { on := 11, ground := Ground.textOnly Departure.lateStores }], guard := none }) (v := ?_) rfl (by kernel_rfl) (by kernel_rfl) (by kernel_rfl) (fun _ _ _ h => h) (Or.inl ⟨by rfl, ?hyr5x12q37⟩) (by assumption) ?restr5x12q37
          case hyr5x12q37 => intro wq hSw; (go_simp); (try with_reducible rfl)
          try simp only [Act.put, List.setIfInBounds_toArray, List.set_cons_zero, List.set_cons_succ]
          refine wpAnyH_ready (rs := [13]) (by kernel_rfl) (by simp) ?_
          refine AllReadyH.cons (o := { dst := none, op := Op.store 67 (Operand.tmp 5) (Operand.tmp 28), type := 0, pos := "wire.go:82", after := #[{ on := 11, ground := Ground.data }, { on := 12, ground := Ground.chain }, { on := 0, ground := Ground.phase }, { on := 1, ground := Ground.phase }, { on := 2, ground := Ground.phase }, { on := 3, ground := Ground.phase }, { on := 4, ground := Ground.phase }, { on := 5, ground := Ground.phase }, { on := 6, ground := Ground.phase }, { on := 7, ground := Ground.phase }, { on := 8, ground := Ground.phase }, { on := 9, ground := Ground.phase }, { on := 10, ground := Ground.phase }, { on := 11, ground := Ground.phase }, { on := 12, ground := Ground.phase }], guard := none }) rfl (fun K hK => ?_) AllReadyH.nil
          go_simp
          refine hK.out _ _ ((Chg.setCell (Chg.setCell hHeld _ (fun x hx => hx)) _ (fun x hx => hx))) (fun hHeld => ?_)
          clear hK K
          try simp only [Act.put, List.setIfInBounds_toArray, List.set_cons_zero, List.set_cons_succ]
          refine wpAnyH_done (by kernel_rfl) ?_ _
          go_wp2_with fail
          refine bodyPost_ret (v := .tuple #[.string N, .agg #[.slice (some ⟨x, o, none⟩) (0) (0), .bool true]]) (by simp [results, Tryd.results29, go_sem, *]) rfl ?_
          rw [← HT.out]
          simp only []
          rw [HB.out]
          have k9 := ((kk.setNew (p := ⟨g2, 0, none⟩) (.slice (some ⟨x, o, none⟩) (0) (0)) hgw).setNew (p := ⟨g2, 1, none⟩) (.bool true) hgw).drew
          exact rd_done (sl_end (HS.out.nx k9) (Nat.le_refl _)) (by omega) (by omega) (.inr ⟨_, _, rfl⟩) (fun x' o' hx' => by cases hx' <;> exact ⟨_, rfl⟩) k9
        · have hEI : ((E : Int) == 0) = false := beq_eq_false_iff_ne.2 (by omega)
          have HB : Hid ((true && (E == 0)) = false) := Lib.hid (by simp [*])
          go_wp2_with fail
          refine wp_region_held_drew (S := Chg (· ≠ g2) w2) (by kernel_rfl) ((Chg.refl _ w2).drew) (fun hHeld => ?_)
          refine wpAnyH_take (i := 0) (oi := { dst := some 17, op := Op.move (Operand.tmp 6), type := 9, pos := "wire.go:82", after := #[], guard := none }) (v := ?_) rfl (by kernel_rfl) (by kernel_rfl) (by kernel_rfl) (fun _ _ _ h => h) (Or.inl ⟨by rfl, ?hyr6x0q1⟩) (by assumption) ?restr6x0q1
          case hyr6x0q1 => intro wq hSw; (go_simp); (try with_reducible rfl)
          try simp only [Act.put, List.setIfInBounds_toArray, List.set_cons_zero, List.set_cons_succ]
          refine wpAnyH_take (i := 1) (oi := { dst := some 18, op := Op.fieldAddr 67 (Operand.tmp 2) 0, type := 0, pos := "wire.go:82", after := #[], guard := none }) (v := ?_) rfl (by kernel_rfl) (by kernel_rfl) (by kernel_rfl) (fun _ _ _ h => h) (Or.inl ⟨by rfl, ?hyr6x1q4⟩) (by assumption) ?restr6x1q4
          case hyr6x1q4 => intro wq hSw; (go_simp); (try with_reducible rfl)
          try simp only [Act.put, List.setIfInBounds_toArray, List.set_cons_zero, List.set_cons_succ]
          refine wpAnyH_take (i := 2) (oi := { dst := some 19, op := Op.load 23 (Operand.tmp 18), type := 23, pos := "wire.go:82", after := #[{ on := 1, ground := Ground.data }], guard := none }) (v := ?_) rfl (by kernel_rfl) (by kernel_rfl) (by kernel_rfl) (fun _ _ _ h => h) (Or.inl ⟨by rfl, ?hyr6x2q7⟩) (by assumption) ?restr6x2q7
          case hyr6x2q7 => intro wq hSw; (have cq := Chg.cellv hSw p0 hgg; go_simp); (try with_reducible rfl)
          try simp only [Act.put, List.setIfInBounds_toArray, List.set_cons_zero, List.set_cons_succ]
          refine wpAnyH_take (i := 3) (oi := { dst := some 20, op := Op.move (Operand.tmp 7), type := 3, pos := "wire.go:82", after := #[], guard := none }) (v := ?_) rfl (by kernel_rfl) (by kernel_rfl) (by kernel_rfl) (fun _ _ _ h => h) (Or.inl ⟨by rfl, ?hyr6x3q10⟩) (by assumption) ?restr6x3q10
          case hyr6x3q10 => intro wq hSw; (go_simp); (try with_reducible rfl)
          try simp only [Act.put, List.setIfInBounds_toArray, List.set_cons_zero, List.set_cons_succ]
          refine wpAnyH_take (i := 4) (oi := { dst := some 21, op := Op.slice 23 (Operand.tmp 19) (some (Operand.tmp 20)) none none, type := 23, pos := "wire.go:82", after := #[{ on := 2, ground := Ground.data }, { on := 3, ground := Ground.data }], guard := none }) (v := ?_) rfl (by kernel_rfl) (by kernel_rfl) (by kernel_rfl) (fun _ _ _ h => h) (Or.inl ⟨by rfl, ?hyr6x4q13⟩) (by assumption) ?restr6x4q13
          case hyr6x4q13 => intro wq hSw; (go_simp); (try with_reducible rfl)
          try simp only [Act.put, List.setIfInBounds_toArray, List.set_cons_zero, List.set_cons_succ]
          refine wpAnyH_take (i := 5) (oi := { dst := some 22, op := Op.fieldAddr 67 (Operand.tmp 2) 1, type := 0, pos := "wire.go:82", after := #[], guard := none }) (v := ?_) rfl (by kernel_rfl) (by kernel_rfl) (by kernel_rfl) (fun _ _ _ h => h) (Or.inl ⟨by rfl, ?hyr6x5q16⟩) (by assumption) ?restr6x5q16
          case hyr6x5q16 => intro wq hSw; (go_simp); (try with_reducible rfl)
          try simp only [Act.put, List.setIfInBounds_toArray, List.set_cons_zero, List.set_cons_succ]
          refine wpAnyH_take (i := 6) (oi := { dst := some 23, op := Op.load 4 (Operand.tmp 22), type := 4, pos := "wire.go:82", after := #[{ on := 5, ground := Ground.data }], guard := none }) (v := ?_) rfl (by kernel_rfl) (by kernel_rfl) (by kernel_rfl) (fun _ _ _ h => h) (Or.inl ⟨by rfl, ?hyr6x6q19⟩) (by assumption) ?restr6x6q19
          case hyr6x6q19 => intro wq hSw; (have cq := Chg.cellv hSw p1 hgg; go_simp); (try with_reducible rfl)
          try simp only [Act.put, List.setIfInBounds_toArray, List.set_cons_zero, List.set_cons_succ]
          refine wpAnyH_take (i := 7) (oi := { dst := some 24, op := Op.move (Operand.tmp 23), type := 4, pos := "wire.go:82", after := #[{ on := 6, ground := Ground.data }], guard := none }) (v := ?_) rfl (by kernel_rfl) (by kernel_rfl) (by kernel_rfl) (fun _ _ _ h => h) (Or.inl ⟨by rfl, ?hyr6x7q22⟩) (by assumption) ?restr6x7q22
          case hyr6x7q22 => intro wq hSw; (go_simp); (try with_reducible rfl)
          try simp only [Act.put, List.setIfInBounds_toArray, List.set_cons_zero, List.set_cons_succ]
          refine wpAnyH_take (i := 8) (oi := { dst := some 25, op := Op.move (Operand.tmp 8), type := 31, pos := "wire.go:82", after := #[{ on := 7, ground := Ground.guard }, { on := 12, ground := Ground.gcOnly Departure.lateStores }], guard := some (7, true) }) (v := ?_) rfl (by kernel_rfl) (by kernel_rfl) (by kernel_rfl) (fun _ _ _ h => h) (Or.inl ⟨by rfl, ?hyr6x8q25⟩) (by assumption) ?restr6x8q25
          case hyr6x8q25 => intro wq hSw; (go_simp); (try with_reducible rfl)
          try simp only [Act.put, List.setIfInBounds_toArray, List.set_cons_zero, List.set_cons_succ]
          refine wpAnyH_take (i := 9) (oi := { dst := some 26, op := Op.binOp BinOp.eql 31 (Operand.tmp 25) (Operand.const (Value.int IntKind.i64 0)) 31, type := 4, pos := "wire.go:82", after := #[{ on := 8, ground := Ground.data }, { on := 7, ground := Ground.guard }, { on := 12, ground := Ground.gcOnly Departure.lateStores }], guard := some (7, true) }) (v := ?_) rfl (by kernel_rfl) (by kernel_rfl) (by kernel_rfl) (fun _ _ _ h => h) (Or.inl ⟨by rfl, ?hyr6x9q28⟩) (by assumption) ?restr6x9q28
          case hyr6x9q28 => intro wq hSw; (go_simp); (try with_reducible rfl)
          try simp only [Act.put, List.setIfInBounds_toArray, List.set_cons_zero, List.set_cons_succ]
          refine wpAnyH_take (i := 10) (oi := { dst := some 27, op := Op.pick (Operand.tmp 24) (Operand.tmp 26) (Operand.const (Value.bool false)), type := 4, pos := "wire.go:82", after := #[{ on := 7, ground := Ground.data }, { on := 9, ground := Ground.data }, { on := 12, ground := Ground.gcOnly Departure.lateStores }], guard := none }) (v := ?_) rfl (by kernel_rfl) (by kernel_rfl) (by kernel_rfl) (fun _ _ _ h => h) (Or.inl ⟨by rfl, ?hyr6x10q31⟩) (by assumption) ?restr6x10q31
          case hyr6x10q31 => intro wq hSw; (go_simp); (try with_reducible rfl)
          try simp only [Act.put, List.setIfInBounds_toArray, List.set_cons_zero, List.set_cons_succ]
          refine wpAnyH_take (i := 11) (oi := { dst := some 28, op := Op.build 67 #[(0, Operand.tmp 21), (1, Operand.tmp 27)], type := 67, pos := "wire.go:82", after := #[{ on := 4, ground := Ground.data }, { on := 10, ground := Ground.data }, { on := 12, ground := Ground.gcOnly Departure.lateStores }], guard := none }) (v := ?_) rfl (by kernel_rfl) (by kernel_rfl) (by kernel_rfl) (fun _ _ _ h => h) (Or.inl ⟨by rfl, ?hyr6x11q34⟩) (by assumption) ?restr6x11q34
          case hyr6x11q34 => intro wq hSw; (go_simp); (try with_reducible rfl)
          try simp only [Act.put, List.setIfInBounds_toArray, List.set_cons_zero, List.set_cons_succ]
          refine wpAnyH_take (i := 12) (oi := { dst := some 4, op := Op.assign (Operand.tmp 17), type := 9, pos := "wire.go:82", after := #[{ on := 0, ground := Ground.data }, { on := 7, ground := Ground.chain }, { on := 0, ground := Ground.phase }, { on := 1, ground := Ground.textOnly Departure.lateStores }, { on := 2, ground := Ground.textOnly Departure.lateStores }, { on := 3, ground := Ground.textOnly Departure.lateStores }, { on := 4, ground := Ground.textOnly Departure.lateStoresUnsure }, { on := 5, ground := Ground.textOnly Departure.lateStores }, { on := 6, ground := Ground.textOnly Departure.lateStores }, { on := 7, ground := Ground.textOnly Departure.lateStores }, { on := 8, ground := Ground.textOnly Departure.lateStores }, { on := 9, ground := Ground.textOnly Departure.lateStores }, { on := 10, ground := Ground.textOnly Departure.lateStores }, { on := 11, ground := Ground.textOnly Departure.lateStores }], guard := none }) (v := ?_) rfl (by kernel_rfl) (by kernel_rfl) (by kernel_rfl) (fun _ _ _ h => h) (Or.inl ⟨by rfl, ?hyr6x12q37⟩) (by assumption) ?restr6x12q37
          case hyr6x12q37 => intro wq hSw; (go_simp); (try with_reducible rfl)
          try simp only [Act.put, List.setIfInBounds_toArray, List.set_cons_zero, List.set_cons_succ]
          refine wpAnyH_ready (rs := [13]) (by kernel_rfl) (by simp) ?_
          refine AllReadyH.cons (o := { dst := none, op := Op.store 67 (Operand.tmp 5) (Operand.tmp 28), type := 0, pos := "wire.go:82", after := #[{ on := 11, ground := Ground.data }, { on := 12, ground := Ground.chain }, { on := 0, ground := Ground.phase }, { on := 1, ground := Ground.phase }, { on := 2, ground := Ground.phase }, { on := 3, ground := Ground.phase }, { on := 4, ground := Ground.phase }, { on := 5, ground := Ground.phase }, { on := 6, ground := Ground.phase }, { on := 7, ground := Ground.phase }, { on := 8, ground := Ground.phase }, { on := 9, ground := Ground.phase }, { on := 10, ground := Ground.phase }, { on := 11, ground := Ground.phase }, { on := 12, ground := Ground.phase }], guard := none }) rfl (fun K hK => ?_) AllReadyH.nil
          go_simp
          refine hK.out _ _ ((Chg.setCell (Chg.setCell hHeld _ (fun x hx => hx)) _ (fun x hx => hx))) (fun hHeld => ?_)
          clear hK K
          try simp only [Act.put, List.setIfInBounds_toArray, List.set_cons_zero, List.set_cons_succ]
          refine wpAnyH_done (by kernel_rfl) ?_ _
          go_wp2_with fail
          refine bodyPost_ret (v := .tuple #[.string N, .agg #[.slice (some ⟨x, o, none⟩) (0) (0), .bool false]]) (by simp [results, Tryd.results29, go_sem, *]) rfl ?_
          rw [← HT.out]
          simp only []
          rw [HB.out]
          have k9 := ((kk.setNew (p := ⟨g2, 0, none⟩) (.slice (some ⟨x, o, none⟩) (0) (0)) hgw).setNew (p := ⟨g2, 1, none⟩) (.bool false) hgw).drew
          exact rd_done (sl_end (HS.out.nx k9) (Nat.le_refl _)) (by omega) (by omega) (.inr ⟨_, _, rfl⟩) (fun x' o' hx' => by cases hx' <;> exact ⟨_, rfl⟩) k9
    · have hcK' : ¬ c = K := hcK
      cases ok with
      | false =>
        have HB : Hid ((false && (E == 0)) = false) := Lib.hid (by simp [*])
        go_wp2_with fail
        refine wp_region_held_drew (S := Chg (· ≠ g2) w2) (by kernel_rfl) ((Chg.refl _ w2).drew) (fun hHeld => ?_)
        refine wpAnyH_take (i := 0) (oi := { dst := some 17, op := Op.move (Operand.tmp 6), type := 9, pos := "wire.go:82", after := #[], guard := none }) (v := ?_) rfl (by kernel_rfl) (by kernel_rfl) (by kernel_rfl) (fun _ _ _ h => h) (Or.inl ⟨by rfl, ?hyr7x0q1⟩) (by assumption) ?restr7x0q1
        case hyr7x0q1 => intro wq hSw; (go_simp); (try with_reducible rfl)
        try simp only [Act.put, List.setIfInBounds_toArray, List.set_cons_zero, List.set_cons_succ]
        refine wpAnyH_take (i := 1) (oi := { dst := some 18, op := Op.fieldAddr 67 (Operand.tmp 2) 0, type := 0, pos := "wire.go:82", after := #[], guard := none }) (v := ?_) rfl (by kernel_rfl) (by kernel_rfl) (by kernel_rfl) (fun _ _ _ h => h) (Or.inl ⟨by rfl, ?hyr7x1q4⟩) (by assumption) ?restr7x1q4
        case hyr7x1q4 => intro wq hSw; (go_simp); (try with_reducible rfl)
        try simp only [Act.put, List.setIfInBounds_toArray, List.set_cons_zero, List.set_cons_succ]
        refine wpAnyH_take (i := 2) (oi := { dst := some 19, op := Op.load 23 (Operand.tmp 18), type := 23, pos := "wire.go:82", after := #[{ on := 1, ground := Ground.data }], guard := none }) (v := ?_) rfl (by kernel_rfl) (by kernel_rfl) (by kernel_rfl) (fun _ _ _ h => h) (Or.inl ⟨by rfl, ?hyr7x2q7⟩) (by assumption) ?restr7x2q7
        case hyr7x2q7 => intro wq hSw; (have cq := Chg.cellv hSw p0 hgg; go_simp); (try with_reducible rfl)
        try simp only [Act.put, List.setIfInBounds_toArray, List.set_cons_zero, List.set_cons_succ]
        refine wpAnyH_take (i := 3) (oi := { dst := some 20, op := Op.move (Operand.tmp 7), type := 3, pos := "wire.go:82", after := #[], guard := none }) (v := ?_) rfl (by kernel_rfl) (by kernel_rfl) (by kernel_rfl) (fun _ _ _ h => h) (Or.inl ⟨by rfl, ?hyr7x3q10⟩) (by assumption) ?restr7x3q10
        case hyr7x3q10 => intro wq hSw; (go_simp); (try with_reducible rfl)
        try simp only [Act.put, List.setIfInBounds_toArray, List.set_cons_zero, List.set_cons_succ]
        refine wpAnyH_take (i := 4) (oi := { dst := some 21, op := Op.slice 23 (Operand.tmp 19) (some (Operand.tmp 20)) none none, type := 23, pos := "wire.go:82", after := #[{ on := 2, ground := Ground.data }, { on := 3, ground := Ground.data }], guard := none }) (v := ?_) rfl (by kernel_rfl) (by kernel_rfl) (by kernel_rfl) (fun _ _ _ h => h) (Or.inl ⟨by rfl, ?hyr7x4q13⟩) (by assumption) ?restr7x4q13
        case hyr7x4q13 => intro wq hSw; (go_simp); (try with_reducible rfl)
        try simp only [Act.put, List.setIfInBounds_toArray, List.set_cons_zero, List.set_cons_succ]
        refine wpAnyH_take (i := 5) (oi := { dst := some 22, op := Op.fieldAddr 67 (Operand.tmp 2) 1, type := 0, pos := "wire.go:82", after := #[], guard := none }) (v := ?_) rfl (by kernel_rfl) (by kernel_rfl) (by kernel_rfl) (fun _ _ _ h => h) (Or.inl ⟨by rfl, ?hyr7x5q16⟩) (by assumption) ?restr7x5q16
        case hyr7x5q16 => intro wq hSw; (go_simp); (try with_reducible rfl)
        try simp only [Act.put, List.setIfInBounds_toArray, List.set_cons_zero, List.set_cons_succ]
        refine wpAnyH_take (i := 6) (oi := { dst := some 23, op := Op.load 4 (Operand.tmp 22), type := 4, pos := "wire.go:82", after := #[{ on := 5, ground := Ground.data }], guard := none }) (v := ?_) rfl (by kernel_rfl) (by kernel_rfl) (by kernel_rfl) (fun _ _ _ h => h) (Or.inl ⟨by rfl, ?hyr7x6q19⟩) (by assumption) ?restr7x6q19
        case hyr7x6q19 => intro wq hSw; (have cq := Chg.cellv hSw p1 hgg; go_simp); (try with_reducible rfl)
        try simp only [Act.put, List.setIfInBounds_toArray, List.set_cons_zero, List.set_cons_succ]
        refine wpAnyH_take (i := 7) (oi := { dst := some 24, op := Op.move (Operand.tmp 23), type := 4, pos := "wire.go:82", after := #[{ on := 6, ground := Ground.data }], guard := none }) (v := ?_) rfl (by kernel_rfl) (by kernel_rfl) (by kernel_rfl) (fun _ _ _ h => h) (Or.inl ⟨by rfl, ?hyr7x7q22⟩) (by assumption) ?restr7x7q22
        case hyr7x7q22 => intro wq hSw; (go_simp); (try with_reducible rfl)
        try simp only [Act.put, List.setIfInBounds_toArray, List.set_cons_zero, List.set_cons_succ]
        refine wpAnyH_take (i := 8) (oi := { dst := some 25, op := Op.move (Operand.tmp 8), type := 31, pos := "wire.go:82", after := #[{ on := 7, ground := Ground.guard }, { on := 12, ground := Ground.gcOnly Departure.lateStores }], guard := some (7, true) }) (v := undef) rfl (by kernel_rfl) (by kernel_rfl) (by kernel_rfl) (fun _ _ _ h => h) (Or.inr ⟨by rfl, rfl⟩) (by assumption) ?_
        try simp only [Act.put, List.setIfInBounds_toArray, List.set_cons_zero, List.set_cons_succ]
        refine wpAnyH_take (i := 9) (oi := { dst := some 26, op := Op.binOp BinOp.eql 31 (Operand.tmp 25) (Operand.const (Value.int IntKind.i64 0)) 31, type := 4, pos := "wire.go:82", after := #[{ on := 8, ground := Ground.data }, { on := 7, ground := Ground.guard }, { on := 12, ground := Ground.gcOnly Departure.lateStores }], guard := some (7, true) }) (v := undef) rfl (by kernel_rfl) (by kernel_rfl) (by kernel_rfl) (fun _ _ _ h => h) (Or.inr ⟨by rfl, rfl⟩) (by assumption) ?_
        try simp only [Act.put, List.setIfInBounds_toArray, List.set_cons_zero, List.set_cons_succ]
        refine wpAnyH_take (i := 10) (oi := { dst := some 27, op := Op.pick (Operand.tmp 24) (Operand.tmp 26) (Operand.const (Value.bool false)), type := 4, pos := "wire.go:82", after := #[{ on := 7, ground := Ground.data }, { on := 9, ground := Ground.data }, { on := 12, ground := Ground.gcOnly Departure.lateStores }], guard := none }) (v := ?_) rfl (by kernel_rfl) (by kernel_rfl) (by kernel_rfl) (fun _ _ _ h => h) (Or.inl ⟨by rfl, ?hyr7x10q29⟩) (by assumption) ?restr7x10q29
        case hyr7x10q29 => intro wq hSw; (go_simp); (try with_reducible rfl)
        try simp only [Act.put, List.setIfInBounds_toArray, List.set_cons_zero, List.set_cons_succ]
        refine wpAnyH_take (i := 11) (oi := { dst := some 28, op := Op.build 67 #[(0, Operand.tmp 21), (1, Operand.tmp 27)], type := 67, pos := "wire.go:82", after := #[{ on := 4, ground := Ground.data }, { on := 10, ground := Ground.data }, { on := 12, ground := Ground.gcOnly Departure.lateStores }], guard := none }) (v := ?_) rfl (by kernel_rfl) (by kernel_rfl) (by kernel_rfl) (fun _ _ _ h => h) (Or.inl ⟨by rfl, ?hyr7x11q32⟩) (by assumption) ?restr7x11q32
        case hyr7x11q32 => intro wq hSw; (go_simp); (try with_reducible rfl)
        try simp only [Act.put, List.setIfInBounds_toArray, List.set_cons_zero, List.set_cons_succ]
        refine wpAnyH_take (i := 12) (oi := { dst := some 4, op := Op.assign (Operand.tmp 17), type := 9, pos := "wire.go:82", after := #[{ on := 0, ground := Ground.data }, { on := 7, ground := Ground.chain }, { on := 0, ground := Ground.phase }, { on := 1, ground := Ground.textOnly Departure.lateStores }, { on := 2, ground := Ground.textOnly Departure.lateStores }, { on := 3, ground := Ground.textOnly Departure.lateStores }, { on := 4, ground := Ground.textOnly Departure.lateStoresUnsure }, { on := 5, ground := Ground.textOnly Departure.lateStores }, { on := 6, ground := Ground.textOnly Departure.lateStores }, { on := 7, ground := Ground.textOnly Departure.lateStores }, { on := 8, ground := Ground.textOnly Departure.lateStores }, { on := 9, ground := Ground.textOnly Departure.lateStores }, { on := 10, ground := Ground.textOnly Departure.lateStores }, { on := 11, ground := Ground.textOnly Departure.lateStores }], guard := none }) (v := ?_) rfl (by kernel_rfl) (by kernel_rfl) (by kernel_rfl) (fun _ _ _ h => h) (Or.inl ⟨by rfl, ?hyr7x12q35⟩) (by assumption) ?restr7x12q35
        case hyr7x12q35 => intro wq hSw; (go_simp); (try with_reducible rfl)
        try simp only [Act.put, List.setIfInBounds_toArray, List.set_cons_zero, List.set_cons_succ]
        refine wpAnyH_ready (rs := [13]) (by kernel_rfl) (by simp) ?_
        refine AllReadyH.cons (o := { dst := none, op := Op.store 67 (Operand.tmp 5) (Operand.tmp 28), type := 0, pos := "wire.go:82", after := #[{ on := 11, ground := Ground.data }, { on := 12, ground := Ground.chain }, { on := 0, ground := Ground.phase }, { on := 1, ground := Ground.phase }, { on := 2, ground := Ground.phase }, { on := 3, ground := Ground.phase }, { on := 4, ground := Ground.phase }, { on := 5, ground := Ground.phase }, { on := 6, ground := Ground.phase }, { on := 7, ground := Ground.phase }, { on := 8, ground := Ground.phase }, { on := 9, ground := Ground.phase }, { on := 10, ground := Ground.phase }, { on := 11, ground := Ground.phase }, { on := 12, ground := Ground.phase }], guard := none }) rfl (fun K hK => ?_) AllReadyH.nil
        go_simp
        refine hK.out _ _ ((Chg.setCell (Chg.setCell hHeld _ (fun x hx => hx)) _ (fun x hx => hx))) (fun hHeld => ?_)
        clear hK K
        try simp only [Act.put, List.setIfInBounds_toArray, List.set_cons_zero, List.set_cons_succ]
        refine wpAnyH_done (by kernel_rfl) ?_ _
        go_wp2_with fail
        refine bodyPost_ret (v := .tuple #[.string N, .agg #[.slice (some ⟨x, o + K, none⟩) (n - K) (c - K), .bool false]]) (by simp [results, Tryd.results29, go_sem, *]) rfl ?_
        rw [← HT.out]
        simp only []
        rw [HB.out]
        have k9 := ((kk.setNew (p := ⟨g2, 0, none⟩) (.slice (some ⟨x, o + K, none⟩) (n - K) (c - K)) hgw).setNew (p := ⟨g2, 1, none⟩) (.bool false) hgw).drew
        exact rd_done (sl_from (HS.out.nx k9) hk) (by omega) (by omega) (.inr ⟨_, _, rfl⟩) (fun x' o' hx' => by cases hx' <;> exact ⟨_, rfl⟩) k9
      | true =>
        by_cases hE : E = 0
        · subst hE
          have HB : Hid ((true && ((0 : Nat) == 0)) = true) := Lib.hid (by simp [*])
          go_wp2_with fail
          refine wp_region_held_drew (S := Chg (· ≠ g2) w2) (by kernel_rfl) ((Chg.refl _ w2).drew) (fun hHeld => ?_)
          refine wpAnyH_take (i := 0) (oi := { dst := some 17, op := Op.move (Operand.tmp 6), type := 9, pos := "wire.go:82", after := #[], guard := none }) (v := ?_) rfl (by kernel_rfl) (by kernel_rfl) (by kernel_rfl) (fun _ _ _ h => h) (Or.inl ⟨by rfl, ?hyr8x0q1⟩) (by assumption) ?restr8x0q1
          case hyr8x0q1 => intro wq hSw; (go_simp); (try with_reducible rfl)
          try simp only [Act.put, List.setIfInBounds_toArray, List.set_cons_zero, List.set_cons_succ]
          refine wpAnyH_take (i := 1) (oi := { dst := some 18, op := Op.fieldAddr 67 (Operand.tmp 2) 0, type := 0, pos := "wire.go:82", after := #[], guard := none }) (v := ?_) rfl (by kernel_rfl) (by kernel_rfl) (by kernel_rfl) (fun _ _ _ h => h) (Or.inl ⟨by rfl, ?hyr8x1q4⟩) (by assumption) ?restr8x1q4
          case hyr8x1q4 => intro wq hSw; (go_simp); (try with_reducible rfl)
          try simp only [Act.put, List.setIfInBounds_toArray, List.set_cons_zero, List.set_cons_succ]
          refine wpAnyH_take (i := 2) (oi := { dst := some 19, op := Op.load 23 (Operand.tmp 18), type := 23, pos := "wire.go:82", after := #[{ on := 1, ground := Ground.data }], guard := none }) (v := ?_) rfl (by kernel_rfl) (by kernel_rfl) (by kernel_rfl) (fun _ _ _ h => h) (Or.inl ⟨by rfl, ?hyr8x2q7⟩) (by assumption) ?restr8x2q7
          case hyr8x2q7 => intro wq hSw; (have cq := Chg.cellv hSw p0 hgg; go_simp); (try with_reducible rfl)
          try simp only [Act.put, List.setIfInBounds_toArray, List.set_cons_zero, List.set_cons_succ]
          refine wpAnyH_take (i := 3) (oi := { dst := some 20, op := Op.move (Operand.tmp 7), type := 3, pos := "wire.go:82", after := #[], guard := none }) (v := ?_) rfl (by kernel_rfl) (by kernel_rfl) (by kernel_rfl) (fun _ _ _ h => h) (Or.inl ⟨by rfl, ?hyr8x3q10⟩) (by assumption) ?restr8x3q10
          case hyr8x3q10 => intro wq hSw; (go_simp); (try with_reducible rfl)
          try simp only [Act.put, List.setIfInBounds_toArray, List.set_cons_zero, List.set_cons_succ]
          refine wpAnyH_take (i := 4) (oi := { dst := some 21, op := Op.slice 23 (Operand.tmp 19) (some (Operand.tmp 20)) none none, type := 23, pos := "wire.go:82", after := #[{ on := 2, ground := Ground.data }, { on := 3, ground := Ground.data }], guard := none }) (v := ?_) rfl (by kernel_rfl) (by kernel_rfl) (by kernel_rfl) (fun _ _ _ h => h) (Or.inl ⟨by rfl, ?hyr8x4q13⟩) (by assumption) ?restr8x4q13
          case hyr8x4q13 => intro wq hSw; (go_simp); (try with_reducible rfl)
          try simp only [Act.put, List.setIfInBounds_toArray, List.set_cons_zero, List.set_cons_succ]
          refine wpAnyH_take (i := 5) (oi := { dst := some 22, op := Op.fieldAddr 67 (Operand.tmp 2) 1, type := 0, pos := "wire.go:82", after := #[], guard := none }) (v := ?_) rfl (by kernel_rfl) (by kernel_rfl) (by kernel_rfl) (fun _ _ _ h => h) (Or.inl ⟨by rfl, ?hyr8x5q16⟩) (by assumption) ?restr8x5q16
          case hyr8x5q16 => intro wq hSw; (go_simp); (try with_reducible rfl)
          try simp only [Act.put, List.setIfInBounds_toArray, List.set_cons_zero, List.set_cons_succ]
          refine wpAnyH_take (i := 6) (oi := { dst := some 23, op := Op.load 4 (Operand.tmp 22), type := 4, pos := "wire.go:82", after := #[{ on := 5, ground := Ground.data }], guard := none }) (v := ?_) rfl (by kernel_rfl) (by kernel_rfl) (by kernel_rfl) (fun _ _ _ h => h) (Or.inl ⟨by rfl, ?hyr8x6q19⟩) (by assumption) ?restr8x6q19
          case hyr8x6q19 => intro wq hSw; (have cq := Chg.cellv hSw p1 hgg; go_simp); (try with_reducible rfl)
          try simp only [Act.put, List.setIfInBounds_toArray, List.set_cons_zero, List.set_cons_succ]
          refine wpAnyH_take (i := 7) (oi := { dst := some 24, op := Op.move (Operand.tmp 23), type := 4, pos := "wire.go:82", after := #[{ on := 6, ground := Ground.data }], guard := none }) (v := ?_) rfl (by kernel_rfl) (by kernel_rfl) (by kernel_rfl) (fun _ _ _ h => h) (Or.inl ⟨by rfl, ?hyr8x7q22⟩) (by assumption) ?restr8x7q22
          case hyr8x7q22 => intro wq hSw; (go_simp); (try with_reducible rfl)
          try simp only [Act.put, List.setIfInBounds_toArray, List.set_cons_zero, List.set_cons_succ]
          refine wpAnyH_take (i := 8) (oi := { dst := some 25, op := Op.move (Operand.tmp 8), type := 31, pos := "wire.go:82", after := #[{ on := 7, ground := Ground.guard }, { on := 12, ground := Ground.gcOnly Departure.lateStores }], guard := some (7, true) }) (v := ?_) rfl (by kernel_rfl) (by kernel_rfl) (by kernel_rfl) (fun _ _ _ h => h) (Or.inl ⟨by rfl, ?hyr8x8q25⟩) (by assumption) ?restr8x8q25
          case hyr8x8q25 => intro wq hSw; (go_simp); (try with_reducible rfl)
          try simp only [Act.put, List.setIfInBounds_toArray, List.set_cons_zero, List.set_cons_succ]
          refine wpAnyH_take (i := 9) (oi := { dst := some 26, op := Op.binOp BinOp.eql 31 (Operand.tmp 25) (Operand.const (Value.int IntKind.i64 0)) 31, type := 4, pos := "wire.go:82", after := #[{ on := 8, ground := Ground.data }, { on := 7, ground := Ground.guard }, { on := 12, ground := Ground.gcOnly Departure.lateStores }], guard := some (7, true) }) (v := ?_) rfl (by kernel_rfl) (by kernel_rfl) (by kernel_rfl) (fun _ _ _ h => h) (Or.inl ⟨by rfl, ?hyr8x9q28⟩) (by assumption) ?restr8x9q28
          case hyr8x9q28 => intro wq hSw; (go_simp); (try with_reducible rfl)
          try simp only [Act.put, List.setIfInBounds_toArray, List.set_cons_zero, List.set_cons_succ]
          refine wpAnyH_take (i := 10) (oi := { dst := some 27, op := Op.pick (Operand.tmp 24) (Operand.tmp 26) (Operand.const (Value.bool false)), type := 4, pos := "wire.go:82", after := #[{ on := 7, ground := Ground.data }, { on := 9, ground := Ground.data }, { on := 12, ground := Ground.gcOnly Departure.lateStores }], guard := none }) (v := ?_) rfl (by kernel_rfl) (by kernel_rfl) (by kernel_rfl) (fun _ _ _ h => h) (Or.inl ⟨by rfl, ?hyr8x10q31⟩) (by assumption) ?restr8x10q31
          case hyr8x10q31 => intro wq hSw; (go_simp); (try with_reducible rfl)
          try simp only [Act.put, List.setIfInBounds_toArray, List.set_cons_zero, List.set_cons_succ]
          refine wpAnyH_take (i := 11) (oi := { dst := some 28, op := Op.build 67 #[(0, Operand.tmp 21), (1, Operand.tmp 27)], type := 67, pos := "wire.go:82", after := #[{ on := 4, ground := Ground.data }, { on := 10, ground := Ground.data }, { on := 12, ground := Ground.gcOnly Departure.lateStores }], guard := none }) (v := ?_) rfl (by kernel_rfl) (by kernel_rfl) (by kernel_rfl) (fun _ _ _ h => h) (Or.inl ⟨by rfl, ?hyr8x11q34⟩) (by assumption) ?restr8x11q34
          case hyr8x11q34 => intro wq hSw; (go_simp); (try with_reducible rfl)
          try simp only [Act.put, List.setIfInBounds_toArray, List.set_cons_zero, List.set_cons_succ]
          refine wpAnyH_take (i := 12) (oi := { dst := some 4, op := Op.assign (Operand.tmp 17), type := 9, pos := "wire.go:82", after := #[{ on := 0, ground := Ground.data }, { on := 7, ground := Ground.chain }, { on := 0, ground := Ground.phase }, { on := 1, ground := Ground.textOnly Departure.lateStores }, { on := 2, ground := Ground.textOnly Departure.lateStores }, { on := 3, ground := Ground.textOnly Departure.lateStores }, { on := 4, ground := Ground.textOnly Departure.lateStoresUnsure }, { on := 5, ground := Ground.textOnly Departure.lateStores }, { on := 6, ground := Ground.textOnly Departure.lateStores }, { on := 7, ground := Ground.textOnly Departure.lateStores }, { on := 8, ground := Ground.textOnly Departure.lateStores }, { on := 9, ground := Ground.textOnly Departure.lateStores }, { on := 10, ground := Ground.textOnly Departure.lateStores }, { on := 11, ground := Ground.textOnly Departure.lateStores }], guard := none }) (v := ?_) rfl (by kernel_rfl) (by kernel_rfl) (by kernel_rfl) (fun _ _ _ h => h) (Or.inl ⟨by rfl, ?hyr8x12q37⟩) (by assumption) ?restr8x12q37
          case hyr8x12q37 => intro wq hSw; (go_simp); (try with_reducible rfl)
          try simp only [Act.put, List.setIfInBounds_toArray, List.set_cons_zero, List.set_cons_succ]
          refine wpAnyH_ready (rs := [13]) (by kernel_rfl) (by simp) ?_
          refine AllReadyH.cons (o := { dst := none, op := Op.store 67 (Operand.tmp 5) (Operand.tmp 28), type := 0, pos := "wire.go:82", after := #[{ on := 11, ground := Ground.data }, { on := 12, ground := Ground.chain }, { on := 0, ground := Ground.phase }, { on := 1, ground := Ground.phase }, { on := 2, ground := Ground.phase }, { on := 3, ground := Ground.phase }, { on := 4, ground := Ground.phase }, { on := 5, ground := Ground.phase }, { on := 6, ground := Ground.phase }, { on := 7, ground := Ground.phase }, { on := 8, ground := Ground.phase }, { on := 9, ground := Ground.phase }, { on := 10, ground := Ground.phase }, { on := 11, ground := Ground.phase }, { on := 12, ground := Ground.phase }], guard := none }) rfl (fun K hK => ?_) AllReadyH.nil
          go_simp
          refine hK.out _ _ ((Chg.setCell (Chg.setCell hHeld _ (fun x hx => hx)) _ (fun x hx => hx))) (fun hHeld => ?_)
          clear hK K
          try simp only [Act.put, List.setIfInBounds_toArray, List.set_cons_zero, List.set_cons_succ]
          refine wpAnyH_done (by kernel_rfl) ?_ _
          go_wp2_with fail
          refine bodyPost_ret (v := .tuple #[.string N, .agg #[.slice (some ⟨x, o + K, none⟩) (n - K) (c - K), .bool true]]) (by simp [results, Tryd.results29, go_sem, *]) rfl ?_
          rw [← HT.out]
          simp only []
          rw [HB.out]
          have k9 := ((kk.setNew (p := ⟨g2, 0, none⟩) (.slice (some ⟨x, o + K, none⟩) (n - K) (c - K)) hgw).setNew (p := ⟨g2, 1, none⟩) (.bool true) hgw).drew
          exact rd_done (sl_from (HS.out.nx k9) hk) (by omega) (by omega) (.inr ⟨_, _, rfl⟩) (fun x' o' hx' => by cases hx' <;> exact ⟨_, rfl⟩) k9
        · have hEI : ((E : Int) == 0) = false := beq_eq_false_iff_ne.2 (by omega)
          have HB : Hid ((true && (E == 0)) = false) := Lib.hid (by simp [*])
          go_wp2_with fail
          refine wp_region_held_drew (S := Chg (· ≠ g2) w2) (by kernel_rfl) ((Chg.refl _ w2).drew) (fun hHeld => ?_)
          refine wpAnyH_take (i := 0) (oi := { dst := some 17, op := Op.move (Operand.tmp 6), type := 9, pos := "wire.go:82", after := #[], guard := none }) (v := ?_) rfl (by kernel_rfl) (by kernel_rfl) (by kernel_rfl) (fun _ _ _ h => h) (Or.inl ⟨by rfl, ?hyr9x0q1⟩) (by assumption) ?restr9x0q1
          case hyr9x0q1 => intro wq hSw; (go_simp); (try with_reducible rfl)
          try simp only [Act.put, List.setIfInBounds_toArray, List.set_cons_zero, List.set_cons_succ]
          refine wpAnyH_take (i := 1) (oi := { dst := some 18, op := Op.fieldAddr 67 (Operand.tmp 2) 0, type := 0, pos := "wire.go:82", after := #[], guard := none }) (v := ?_) rfl (by kernel_rfl) (by kernel_rfl) (by kernel_rfl) (fun _ _ _ h => h) (Or.inl ⟨by rfl, ?hyr9x1q4⟩) (by assumption) ?restr9x1q4
          case hyr9x1q4 => intro wq hSw; (go_simp); (try with_reducible rfl)
          try simp only [Act.put, List.setIfInBounds_toArray, List.set_cons_zero, List.set_cons_succ]
          refine wpAnyH_take (i := 2) (oi := { dst := some 19, op := Op.load 23 (Operand.tmp 18), type := 23, pos := "wire.go:82", after := #[{ on := 1, ground := Ground.data }], guard := none }) (v := ?_) rfl (by kernel_rfl) (by kernel_rfl) (by kernel_rfl) (fun _ _ _ h => h) (Or.inl ⟨by rfl, ?hyr9x2q7⟩) (by assumption) ?restr9x2q7
          case hyr9x2q7 => intro wq hSw; (have cq := Chg.cellv hSw p0 hgg; go_simp); (try with_reducible rfl)
          try simp only [Act.put, List.setIfInBounds_toArray, List.set_cons_zero, List.set_cons_succ]
          refine wpAnyH_take (i := 3) (oi := { dst := some 20, op := Op.move (Operand.tmp 7), type := 3, pos := "wire.go:82", after := #[], guard := none }) (v := ?_) rfl (by kernel_rfl) (by kernel_rfl) (by kernel_rfl) (fun _ _ _ h => h) (Or.inl ⟨by rfl, ?hyr9x3q10⟩) (by assumption) ?restr9x3q10
          case hyr9x3q10 => intro wq hSw; (go_simp); (try with_reducible rfl)
          try simp only [Act.put, List.setIfInBounds_toArray, List.set_cons_zero, List.set_cons_succ]
          refine wpAnyH_take (i := 4) (oi := { dst := some 21, op := Op.slice 23 (Operand.tmp 19) (some (Operand.tmp 20)) none none, type := 23, pos := "wire.go:82", after := #[{ on := 2, ground := Ground.data }, { on := 3, ground := Ground.data }], guard := none }) (v := ?_) rfl (by kernel_rfl) (by kernel_rfl) (by kernel_rfl) (fun _ _ _ h => h) (Or.inl ⟨by rfl, ?hyr9x4q13⟩) (by assumption) ?restr9x4q13
          case hyr9x4q13 => intro wq hSw; (go_simp); (try with_reducible rfl)
          try simp only [Act.put, List.setIfInBounds_toArray, List.set_cons_zero, List.set_cons_succ]
          refine wpAnyH_take (i := 5) (oi := { dst := some 22, op := Op.fieldAddr 67 (Operand.tmp 2) 1, type := 0, pos := "wire.go:82", after := #[], guard := none }) (v := ?_) rfl (by kernel_rfl) (by kernel_rfl) (by kernel_rfl) (fun _ _ _ h => h) (Or.inl ⟨by rfl, ?hyr9x5q16⟩) (by assumption) ?restr9x5q16
          case hyr9x5q16 => intro wq hSw; (go_simp); (try with_reducible rfl)
          try simp only [Act.put, List.setIfInBounds_toArray, List.set_cons_zero, List.set_cons_succ]
          refine wpAnyH_take (i := 6) (oi := { dst := some 23, op := Op.load 4 (Operand.tmp 22), type := 4, pos := "wire.go:82", after := #[{ on := 5, ground := Ground.data }], guard := none }) (v := ?_) rfl (by kernel_rfl) (by kernel_rfl) (by kernel_rfl) (fun _ _ _ h => h) (Or.inl ⟨by rfl, ?hyr9x6q19⟩) (by assumption) ?restr9x6q19
          case hyr9x6q19 => intro wq hSw; (have cq := Chg.cellv hSw p1 hgg; go_simp); (try with_reducible rfl)
          try simp only [Act.put, List.setIfInBounds_toArray, List.set_cons_zero, List.set_cons_succ]
          refine wpAnyH_take (i := 7) (oi := { dst := some 24, op := Op.move (Operand.tmp 23), type := 4, pos := "wire.go:82", after := #[{ on := 6, ground := Ground.data }], guard := none }) (v := ?_) rfl (by kernel_rfl) (by kernel_rfl) (by kernel_rfl) (fun _ _ _ h => h) (Or.inl ⟨by rfl, ?hyr9x7q22⟩) (by assumption) ?restr9x7q22
          case hyr9x7q22 => intro wq hSw; (go_simp); (try with_reducible rfl)
          try simp only [Act.put, List.setIfInBounds_toArray, List.set_cons_zero, List.set_cons_succ]
          refine wpAnyH_take (i := 8) (oi := { dst := some 25, op := Op.move (Operand.tmp 8), type := 31, pos := "wire.go:82", after := #[{ on := 7, ground := Ground.guard }, { on := 12, ground := Ground.gcOnly Departure.lateStores }], guard := some (7, true) }) (v := ?_) rfl (by kernel_rfl) (by kernel_rfl) (by kernel_rfl) (fun _ _ _ h => h) (Or.inl ⟨by rfl, ?hyr9x8q25⟩) (by assumption) ?restr9x8q25
          case hyr9x8q25 => intro wq hSw; (go_simp); (try with_reducible rfl)
          try simp only [Act.put, List.setIfInBounds_toArray, List.set_cons_zero, List.set_cons_succ]
          refine wpAnyH_take (i := 9) (oi := { dst := some 26, op := Op.binOp BinOp.eql 31 (Operand.tmp 25) (Operand.const (Value.int IntKind.i64 0)) 31, type := 4, pos := "wire.go:82", after := #[{ on := 8, ground := Ground.data }, { on := 7, ground := Ground.guard }, { on := 12, ground := Ground.gcOnly Departure.lateStores }], guard := some (7, true) }) (v := ?_) rfl (by kernel_rfl) (by kernel_rfl) (by kernel_rfl) (fun _ _ _ h => h) (Or.inl ⟨by rfl, ?hyr9x9q28⟩) (by assumption) ?restr9x9q28
          case hyr9x9q28 => intro wq hSw; (go_simp); (try with_reducible rfl)
          try simp only [Act.put, List.setIfInBounds_toArray, List.set_cons_zero, List.set_cons_succ]
          refine wpAnyH_take (i := 10) (oi := { dst := some 27, op := Op.pick (Operand.tmp 24) (Operand.tmp 26) (Operand.const (Value.bool false)), type := 4, pos := "wire.go:82", after := #[{ on := 7, ground := Ground.data }, { on := 9, ground := Ground.data }, { on := 12, ground := Ground.gcOnly Departure.lateStores }], guard := none }) (v := ?_) rfl (by kernel_rfl) (by kernel_rfl) (by kernel_rfl) (fun _ _ _ h => h) (Or.inl ⟨by rfl, ?hyr9x10q31⟩) (by assumption) ?restr9x10q31
          case hyr9x10q31 => intro wq hSw; (go_simp); (try with_reducible rfl)
          try simp only [Act.put, List.setIfInBounds_toArray, List.set_cons_zero, List.set_cons_succ]
          refine wpAnyH_take (i := 11) (oi := { dst := some 28, op := Op.build 67 #[(0, Operand.tmp 21), (1, Operand.tmp 27)], type := 67, pos := "wire.go:82", after := #[{ on := 4, ground := Ground.data }, { on := 10, ground := Ground.data }, { on := 12, ground := Ground.gcOnly Departure.lateStores }], guard := none }) (v := ?_) rfl (by kernel_rfl) (by kernel_rfl) (by kernel_rfl) (fun _ _ _ h => h) (Or.inl ⟨by rfl, ?hyr9x11q34⟩) (by assumption) ?restr9x11q34
          case hyr9x11q34 => intro wq hSw; (go_simp); (try with_reducible rfl)
          try simp only [Act.put, List.setIfInBounds_toArray, List.set_cons_zero, List.set_cons_succ]
          refine wpAnyH_take (i := 12) (oi := { dst := some 4, op := Op.assign (Operand.tmp 17), type := 9, pos := "wire.go:82", after := #[{ on := 0, ground := Ground.data }, { on := 7, ground := Ground.chain }, { on := 0, ground := Ground.phase }, { on := 1, ground := Ground.textOnly Departure.lateStores }, { on := 2, ground := Ground.textOnly Departure.lateStores }, { on := 3, ground := Ground.textOnly Departure.lateStores }, { on := 4, ground := Ground.textOnly Departure.lateStoresUnsure }, { on := 5, ground := Ground.textOnly Departure.lateStores }, { on := 6, ground := Ground.textOnly Departure.lateStores }, { on := 7, ground := Ground.textOnly Departure.lateStores }, { on := 8, ground := Ground.textOnly Departure.lateStores }, { on := 9, ground := Ground.textOnly Departure.lateStores }, { on := 10, ground := Ground.textOnly Departure.lateStores }, { on := 11, ground := Ground.textOnly Departure.lateStores }], guard := none }) (v := ?_) rfl (by kernel_rfl) (by kernel_rfl) (by kernel_rfl) (fun _ _ _ h => h) (Or.inl ⟨by rfl, ?hyr9x12q37⟩) (by assumption) ?restr9x12q37
          case hyr9x12q37 => intro wq hSw; (go_simp); (try with_reducible rfl)
          try simp only [Act.put, List.setIfInBounds_toArray, List.set_cons_zero, List.set_cons_succ]
          refine wpAnyH_ready (rs := [13]) (by kernel_rfl) (by simp) ?_
          refine AllReadyH.cons (o := { dst := none, op := Op.store 67 (Operand.tmp 5) (Operand.tmp 28), type := 0, pos := "wire.go:82", after := #[{ on := 11, ground := Ground.data }, { on := 12, ground := Ground.chain }, { on := 0, ground := Ground.phase }, { on := 1, ground := Ground.phase }, { on := 2, ground := Ground.phase }, { on := 3, ground := Ground.phase }, { on := 4, ground := Ground.phase }, { on := 5, ground := Ground.phase }, { on := 6, ground := Ground.phase }, { on := 7, ground := Ground.phase }, { on := 8, ground := Ground.phase }, { on := 9, ground := Ground.phase }, { on := 10, ground := Ground.phase }, { on := 11, ground := Ground.phase }, { on := 12, ground := Ground.phase }], guard := none }) rfl (fun K hK => ?_) AllReadyH.nil
          go_simp
          refine hK.out _ _ ((Chg.setCell (Chg.setCell hHeld _ (fun x hx => hx)) _ (fun x hx => hx))) (fun hHeld => ?_)
          clear hK K
          try simp only [Act.put, List.setIfInBounds_toArray, List.set_cons_zero, List.set_cons_succ]
          refine wpAnyH_done (by kernel_rfl) ?_ _
          go_wp2_with fail
          refine bodyPost_ret (v := .tuple #[.string N, .agg #[.slice (some ⟨x, o + K, none⟩) (n - K) (c - K), .bool false]]) (by simp [results, Tryd.results29, go_sem, *]) rfl ?_
          rw [← HT.out]
          simp only []
          rw [HB.out]
          have k9 := ((kk.setNew (p := ⟨g2, 0, none⟩) (.slice (some ⟨x, o + K, none⟩) (n - K) (c - K)) hgw).setNew (p := ⟨g2, 1, none⟩) (.bool false) hgw).drew
          exact rd_done (sl_from (HS.out.nx k9) hk) (by omega) (by omega) (.inr ⟨_, _, rfl⟩) (fun x' o' hx' => by cases hx' <;> exact ⟨_, rfl⟩) k9

theorem ruint64_p (a : Option Addr) (n c : Nat) (R : List UInt8) (ok : Bool) (w : World) (h : Sl 1 encB w a n R) (hn : n ≤ 9223372036854775807) (hc : n ≤ c) (hm : c ≤ maxLen) (hf : Form a c) :
    Calls Tryd.prog 27 #[.agg #[.slice a n c, .bool ok], .int .u64 64] w (RdPost (.int .u64 (decR R).1) (R.drop (decR R).2.1) (ok && ((decR R).2.2 == 0) && decide ((decR R).1 ≤ 64)) a w) := ruint_p a n c R ok 64 w h hn hc hm hf (by omega)
theorem ruint32_p (a : Option Addr) (n c : Nat) (R : List UInt8) (ok : Bool) (w : World) (h : Sl 1 encB w a n R) (hn : n ≤ 9223372036854775807) (hc : n ≤ c) (hm : c ≤ maxLen) (hf : Form a c) :
    Calls Tryd.prog 27 #[.agg #[.slice a n c, .bool ok], .int .u64 4294967295] w (RdPost (.int .u64 (decR R).1) (R.drop (decR R).2.1) (ok && ((decR R).2.2 == 0) && decide ((decR R).1 ≤ 4294967295)) a w) := ruint_p a n c R ok 4294967295 w h hn hc hm hf (by omega)
theorem ruint17_p (a : Option Addr) (n c : Nat) (R : List UInt8) (ok : Bool) (w : World) (h : Sl 1 encB w a n R) (hn : n ≤ 9223372036854775807) (hc : n ≤ c) (hm : c ≤ maxLen) (hf : Form a c) :
    Calls Tryd.prog 27 #[.agg #[.slice a n c, .bool ok], .int .u64 17] w (RdPost (.int .u64 (decR R).1) (R.drop (decR R).2.1) (ok && ((decR R).2.2 == 0) && decide ((decR R).1 ≤ 17)) a w) := ruint_p a n c R ok 17 w h hn hc hm hf (by omega)
theorem rstr64_p (a : Option Addr) (n c : Nat) (R : List UInt8) (ok : Bool) (w : World) (h : Sl 1 encB w a n R) (hn : n ≤ 9223372036854775807) (hc : n ≤ c) (hm : c ≤ maxLen) (hf : Form a c) :
    Calls Tryd.prog 29 #[.agg #[.slice a n c, .bool ok], .int .i64 64] w (RdPost (.string (strN R 64).1) (R.drop (strN R 64).2.1) (ok && ((strN R 64).2.2 == 0)) a w) := rstr_p a n c R ok 64 w h hn hc hm hf (by omega)
end Go.Proofs.YtjaemckdfoaopabDoor

/- What decoding gives: the plain functions. -/
namespace Go.Proofs.YtjaemckdfoaopabDoor
open Go.RowKit

def pU (lim : Nat) (R : List UInt8) : Option (Nat × List UInt8) := if (decR R).2.2 = 0 ∧ (decR R).1 ≤ lim then some ((decR R).1, R.drop (decR R).2.1) else none
def pI (R : List UInt8) : Option (Int × List UInt8) := if (intR R).2.2 = 0 then some ((intR R).1, R.drop (intR R).2.1) else none
def pS (R : List UInt8) : Option (ByteArray × List UInt8) := if (strN R 64).2.2 = 0 then some ((strN R 64).1, R.drop (strN R 64).2.1) else none
def contN : Nat → List Nd → List UInt8 → Option (List Nd)
  | 0, out, R => if R.length = 0 then some out else none
  | m + 1, out, R => (pI R).bind fun r1 => (pS r1.2).bind fun r2 => (pU 4294967295 r2.2).bind fun r3 => contN m (out ++ [⟨r1.1, r2.1, r3.1⟩]) r3.2
def decN (R : List UInt8) : Option (List Nd) := (pU 64 R).bind fun r => contN r.1 [] r.2
def decNd (R : List UInt8) : List Nd × Int := match decN R with | some l => (l, 0) | none => ([], 4)
def DcPost (r : List Nd × Int) (w : World) (e : Ending) (w' : World) : Prop := ∃ v, e = .returned (.tuple #[v, .int .i64 r.2]) ∧ OwnL 3 encN 52 w.heap.size w' v r.1 ∧ Ex w w'

theorem contN_step (m : Nat) (out : List Nd) (R : List UInt8) (ok1 ok2 ok3 : Bool) (h1 : ok1 = ((intR R).2.2 == 0)) (h2 : ok2 = (ok1 && ((strN (R.drop (intR R).2.1) 64).2.2 == 0)))
    (h3 : ok3 = (ok2 && ((decR ((R.drop (intR R).2.1).drop (strN (R.drop (intR R).2.1) 64).2.1)).2.2 == 0) && decide ((decR ((R.drop (intR R).2.1).drop (strN (R.drop (intR R).2.1) 64).2.1)).1 ≤ 4294967295))) :
    contN (m + 1) out R = if ok3 then contN m (out ++ [⟨(intR R).1, (strN (R.drop (intR R).2.1) 64).1, (decR ((R.drop (intR R).2.1).drop (strN (R.drop (intR R).2.1) 64).2.1)).1 % 4294967296⟩])
      (((R.drop (intR R).2.1).drop (strN (R.drop (intR R).2.1) 64).2.1).drop (decR ((R.drop (intR R).2.1).drop (strN (R.drop (intR R).2.1) 64).2.1)).2.1) else none := by
  show (pI R).bind _ = _
  by_cases e1 : (intR R).2.2 = 0
  · have d1 : ok1 = true := by rw [h1]; simpa using e1
    rw [show pI R = some ((intR R).1, R.drop (intR R).2.1) from if_pos e1]
    simp only [Option.bind_some]
    by_cases e2 : (strN (R.drop (intR R).2.1) 64).2.2 = 0
    · have d2 : ok2 = true := by rw [h2, d1]; simpa using e2
      rw [show pS (R.drop (intR R).2.1) = some ((strN (R.drop (intR R).2.1) 64).1, (R.drop (intR R).2.1).drop (strN (R.drop (intR R).2.1) 64).2.1) from if_pos e2]
      simp only [Option.bind_some]
      generalize (R.drop (intR R).2.1).drop (strN (R.drop (intR R).2.1) 64).2.1 = R2 at h3 ⊢
      by_cases e3 : (decR R2).2.2 = 0 ∧ (decR R2).1 ≤ 4294967295
      · have d3 : ok3 = true := by rw [h3, d2]; simpa using e3
        rw [show pU 4294967295 R2 = some ((decR R2).1, R2.drop (decR R2).2.1) from if_pos e3, d3]
        simp only [Option.bind_some, if_true]
        rw [Nat.mod_eq_of_lt (by omega)]
      · have d3 : ok3 = false := by
          rw [h3, d2]
          simp only [Bool.true_and, Bool.and_eq_false_iff, beq_eq_false_iff_ne, decide_eq_false_iff_not]
          by_cases e4 : (decR R2).2.2 = 0
          · exact .inr (fun h => e3 ⟨e4, h⟩)
          · exact .inl e4
        rw [show pU 4294967295 R2 = none from if_neg e3, d3]
        simp
    · have d2 : ok2 = false := by rw [h2, d1]; simpa using e2
      rw [show pS (R.drop (intR R).2.1) = none from if_neg e2, h3, d2]
      simp
  · have d1 : ok1 = false := by rw [h1]; simpa using e1
    rw [show pI R = none from if_neg e1, h3, h2, d1]
    simp
end Go.Proofs.YtjaemckdfoaopabDoor

/- The readers of the reference. -/
namespace Go.Proofs.YtjaemckdfoaopabDoor
open Go.RowKit

theorem sl_setF {w : World} {a : Option Addr} {n : Nat} {R : List UInt8} (s : Sl 1 encB w a n R) {p : Addr} (v : Value) (hne : ∀ x o, a = some ⟨x, o, none⟩ → 0 < n → x ≠ p.block) : Sl 1 encB (w.setCell p v) a n R := by
  have k : Chg (· ≠ p.block) w (w.setCell p v) := Chg.setCell (Chg.refl _ w) _ (fun x hx => hx)
  refine ⟨s.1, ?_⟩
  rcases s.2 with h0 | ⟨x, o, e1, e2, e3⟩
  · exact .inl h0
  · rcases Nat.eq_zero_or_pos n with h0 | h0
    · exact .inl h0
    · exact .inr ⟨x, o, e1, Nat.lt_of_lt_of_le e2 k.size, fun j y hj c u hu => by rw [k.cell (p := ⟨x, _, none⟩) (hne x o e1 h0)]; exact e3 j y hj c u hu⟩
def okB {β : Type} (bad : Bool) (r : Option β) : Option β := if bad then none else r
end Go.Proofs.YtjaemckdfoaopabDoor

/- DecodeNodes of the package wire. -/
namespace Go.Proofs.YtjaemckdfoaopabDoor
open Go.RowKit

/-- a reader in a block: what it reads, whether all was well -/
structure Rdr (w : World) (g : Nat) (R : List UInt8) (ok : Bool) (a : Option Addr) (n c : Nat) : Prop where
  blk : Blk w g [.slice a n c, .bool ok] 67
  sl : Sl 1 encB w a n R
  n2 : n ≤ 9223372036854775807
  nc : n ≤ c
  cm : c ≤ maxLen
  form : Form a c
theorem Rdr.nx {w w' : World} {g : Nat} {R : List UInt8} {ok : Bool} {a : Option Addr} {n c : Nat} (h : Rdr w g R ok a n c) (k : Ex w w') : Rdr w' g R ok a n c := ⟨h.blk.nx k, h.sl.nx k, h.n2, h.nc, h.cm, h.form⟩
/-- it is put anew -/
theorem Rdr.put {w : World} {g : Nat} {cs : List Value} (B : Blk w g cs 67) (hcs : cs.length = 2) {R : List UInt8} {ok : Bool} {a : Option Addr} {n c : Nat} (s : Sl 1 encB w a n R) (h1 : n ≤ 9223372036854775807) (h2 : n ≤ c) (h3 : c ≤ maxLen) (h4 : Form a c)
    (hne : ∀ x o, a = some ⟨x, o, none⟩ → 0 < n → x ≠ g) : Rdr ((w.setCell ⟨g, 0, none⟩ (.slice a n c)).setCell ⟨g, 1, none⟩ (.bool ok)) g R ok a n c := by
  refine ⟨?_, ?_, h1, h2, h3, h4⟩
  · match cs, hcs with
    | [x, y], _ => exact (B.set 0 (.slice a n c)).set 1 (.bool ok)
  · have k0 : Chg (· ≠ g) w (w.setCell ⟨g, 0, none⟩ (.slice a n c)) := Chg.setCell (p := ⟨g, 0, none⟩) (Chg.refl _ w) _ (fun x hx => hx)
    have k : Chg (· ≠ g) w ((w.setCell ⟨g, 0, none⟩ (.slice a n c)).setCell ⟨g, 1, none⟩ (.bool ok)) := Chg.setCell (p := ⟨g, 1, none⟩) k0 _ (fun x hx => hx)
    refine ⟨s.1, ?_⟩
    rcases s.2 with h0 | ⟨x, o, e1, e2, e3⟩
    · exact .inl h0
    · rcases Nat.eq_zero_or_pos n with h0 | h0
      · exact .inl h0
      · exact .inr ⟨x, o, e1, Nat.lt_of_lt_of_le e2 k.size, fun j y hj c u hu => by rw [k.cell (p := ⟨x, _, none⟩) (hne x o e1 h0)]; exact e3 j y hj c u hu⟩
theorem sl_set {w : World} {a : Option Addr} {n : Nat} {R : List UInt8} (s : Sl 1 encB w a n R) {p : Addr} (v : Value) (hne : ∀ x o, a = some ⟨x, o, none⟩ → 0 < n → x ≠ p.block) : Sl 1 encB (w.setCell p v) a n R := by
  have k : Chg (· ≠ p.block) w (w.setCell p v) := Chg.setCell (Chg.refl _ w) _ (fun x hx => hx)
  refine ⟨s.1, ?_⟩
  rcases s.2 with h0 | ⟨x, o, e1, e2, e3⟩
  · exact .inl h0
  · rcases Nat.eq_zero_or_pos n with h0 | h0
    · exact .inl h0
    · exact .inr ⟨x, o, e1, Nat.lt_of_lt_of_le e2 k.size, fun j y hj c u hu => by rw [k.cell (p := ⟨x, _, none⟩) (hne x o e1 h0)]; exact e3 j y hj c u hu⟩
theorem own_ne {e : TypeId} {base : Nat} {w : World} {v : Value} {l : List Nd} {g : Nat} {cs : List Value} {ty : TypeId} (h : OwnL 3 encN e base w v l) (B : Blk w g cs ty) (hne : ty ≠ e) : ∀ x, v.ownBlock = some x → x ≠ g := by
  intro x hx he
  subst he
  obtain ⟨_, cur, e1⟩ := h.blk hx
  unfold Blk at B
  rw [B] at e1
  simp at e1
  exact hne e1.2
def DnRel (B : List UInt8) (base g b0 : Nat) (w : World) (nv o : Value) (wr : World) : Prop :=
  ∃ (N : Nat) (out : List Nd) (R : List UInt8) (ok : Bool) (a : Option Addr) (n c : Nat), nv = .int .u64 N ∧ OwnL 3 encN 52 base wr o out ∧ Rdr wr g R ok a n c ∧ (∀ x oo, a = some ⟨x, oo, none⟩ → 0 < n → x < b0) ∧ Exb g w wr ∧
    (ok = true → decN B = contN N out R ∧ N + out.length ≤ 64) ∧ (ok = false → decN B = none)

set_option maxRecDepth 100000 in
set_option maxHeartbeats 4000000 in
theorem decn_p (a : Option Addr) (n c : Nat) (B : List UInt8) (w : World) (h : Sl 1 encB w a n B) (hn : n ≤ 9223372036854775807) (hc : n ≤ c) (hm : c ≤ maxLen) (hf : Form a c) :
    Calls Tryd.prog 10 #[.slice a n c] w (DcPost (decNd B) w) := by
  go_enter Tryd.func10, Tryd.ntmps10
  go_wp2_with fail
  (with_reducible refine (ruint64_p _ _ _ _ true _ h hn hc hm hf).mono ?_)
  rintro e w1 ⟨a1, n1, c1, rfl, s1, nc1, cm1, f1, x1, k1⟩
  have hl0 := h.len
  have hn1 : n1 ≤ n := by rw [← s1.len, ← h.len, List.length_drop]; omega
  have HX : ∀ x oo, a1 = some ⟨x, oo, none⟩ → 0 < n1 → x < w.heap.size := by
    intro x oo he h0
    obtain ⟨o', ho⟩ := x1 x oo he
    rcases h.2 with h2 | ⟨y, o2, e1, e2, _⟩
    · omega
    · rw [ho] at e1; cases e1; exact e2
  have HD : Hid (decN B = if (true && ((decR B).2.2 == 0) && decide ((decR B).1 ≤ 64)) then contN (decR B).1 [] (B.drop (decR B).2.1) else none) := Lib.hid (by
    unfold decN pU
    by_cases e3 : (decR B).2.2 = 0 ∧ (decR B).1 ≤ 64
    · rw [if_pos e3]
      simp [e3.1, e3.2]
    · rw [if_neg e3]
      by_cases e4 : (decR B).2.2 = 0
      · have : ¬ (decR B).1 ≤ 64 := fun h => e3 ⟨e4, h⟩
        simp [e4, this]
      · simp [e4])
  have hN := decR_lt B
  have h64 : (true && ((decR B).2.2 == 0) && decide ((decR B).1 ≤ 64)) = true → (decR B).1 ≤ 64 := by intro h; simp at h; exact h.2
  generalize (true && ((decR B).2.2 == 0) && decide ((decR B).1 ≤ 64)) = ok at HD h64 ⊢
  generalize B.drop (decR B).2.1 = R at s1 HD
  generalize (decR B).1 = N at HD hN h64 ⊢
  have H64 := Lib.hid h64
  have k2 := Ex.new w1 (.cells #[.slice a1 n1 c1, .bool ok] 67)
  have B2 := Blk.new w1 [.slice a1 n1 c1, .bool ok] 67
  obtain ⟨w2, hw2⟩ : ∃ w2, w2 = w1.alloc (.cells #[.slice a1 n1 c1, .bool ok] 67) := ⟨_, rfl⟩
  obtain ⟨g5, hg5⟩ : ∃ g5, g5 = w1.heap.size := ⟨_, rfl⟩
  have B2 : Blk w2 g5 [.slice a1 n1 c1, .bool ok] 67 := by rw [hw2, hg5]; exact B2
  rw [← hw2] at k2
  have RD : Rdr w2 g5 R ok a1 n1 c1 := ⟨B2, s1.nx k2, by omega, nc1, cm1, f1⟩
  have hgb : w.heap.size ≤ g5 := by have := k1.size; omega
  have kk := k1.nx k2
  have KK := Lib.hid kk
  have HW2 := Lib.hid hw2
  have HG5 := Lib.hid hg5
  have zz := kk.size
  clear h hf f1 x1 s1 hw2 hg5 k1 k2 B2 h64 nc1 cm1 hn1 hl0 kk
  go_upto_region 2 with fail
  rw [← HG5.out, ← HW2.out]
  go_wp2_with fail
  go_loopw [4, 6] (fun nv o wr => DnRel B w2.heap.size g5 w.heap.size w2 nv o wr) (fun nv _ _ => (intOf nv).toNat)
  case atStart =>
    refine ⟨N, [], R, ok, a1, n1, c1, rfl, OwnL.nil _ _ _ _ _, RD, HX, Exb.refl _ _, fun ho => ?_, fun ho => ?_⟩
    · rw [HD.out, if_pos ho]; exact ⟨rfl, by have := H64.out ho; simp; omega⟩
    · rw [HD.out, ho]; rfl
  case round =>
    clear RD HX HD H64 hN
    obtain ⟨N, out, R, ok, a, n, c, rfl, own, RD, HX, kw, HT, HF⟩ := hrel
    obtain ⟨wo, rfl⟩ : ∃ wo : World, wo = wr := ⟨_, rfl⟩
    have q0 := RD.blk.cell 0 _ rfl
    have q1 := RD.blk.cell 1 _ rfl
    have HT := Lib.hid HT
    have HF := Lib.hid HF
    have HX := Lib.hid HX
    have ke : Ex w wo := Ex.of_exb ((KK.out.b g5).nxb kw) hgb
    obtain ⟨a6, c6, rfl, s6, o6, m6, nil6⟩ := own.slf (fun _ => rfl)
    cases ok with
    | false =>
      have HE : Hid (decNd B = ([], 4)) := Lib.hid (by unfold decNd; rw [HF.out rfl])
      clear RD own s6 nil6
      by_cases hN0 : (0 : Int) < (N : Int)
      · go_wp2_with fail
        go_ret2
        rw [HE.out]
        exact ⟨_, rfl, OwnL.nil _ _ _ _ _, ke⟩
      · go_wp2_with fail
        go_ret2
        rw [HE.out]
        exact ⟨_, rfl, OwnL.nil _ _ _ _ _, ke⟩
    | true =>
      obtain ⟨hD, hNo⟩ := HT.out rfl
      by_cases hN0 : N = 0
      · subst hN0
        have hRl := RD.sl.len
        by_cases hn0 : n = 0
        · have HE : Hid (decNd B = (out, 0)) := Lib.hid (by unfold decNd; rw [hD]; unfold contN; rw [if_pos (by omega)])
          have dn : ¬ (0 : Int) < (n : Int) := by omega
          clear RD s6 nil6 hD hRl hn0
          have own := Lib.hid own
          go_wp2_with fail
          go_ret2
          rw [HE.out]
          exact ⟨_, rfl, own.out.base zz, ke⟩
        · have HE : Hid (decNd B = ([], 4)) := Lib.hid (by unfold decNd; rw [hD]; unfold contN; rw [if_neg (by omega)])
          have dn : (0 : Int) < (n : Int) := by omega
          clear RD own s6 nil6 hD hRl hn0
          go_wp2_with fail
          go_ret2
          rw [HE.out]
          exact ⟨_, rfl, OwnL.nil _ _ _ _ _, ke⟩
      · obtain ⟨m, rfl⟩ : ∃ m, N = m + 1 := ⟨N - 1, by omega⟩
        have hNp : (0 : Int) < ((m + 1 : Nat) : Int) := by omega
        have hol : out.length ≤ 63 := by omega
        have HD := Lib.hid hD
        have OWN := Lib.hid own
        have RDH := Lib.hid RD
        have hne5 : ∀ x, (Value.slice a6 out.length c6).ownBlock = some x → x ≠ g5 := own_ne own RD.blk (by decide)
        have h5o := RD.blk.lt
        have hlt6 : ∀ x, (Value.slice a6 out.length c6).ownBlock = some x → x < wo.heap.size := fun x hx => (own.lt x hx).2
        have NE6 := Lib.hid hne5
        have LT6 := Lib.hid hlt6
        have HR0 := Lib.hid RD.sl.len
        have B7 := Blk.new wo [.int .i64 0, .string ⟨#[]⟩, .int .u32 0] 52
        have k3 := Ex.new wo (.cells #[.int .i64 0, .string ⟨#[]⟩, .int .u32 0] 52)
        obtain ⟨w3, hw3⟩ : ∃ w3, w3 = wo.alloc (.cells #[.int .i64 0, .string ⟨#[]⟩, .int .u32 0] 52) := ⟨_, rfl⟩
        obtain ⟨g7, hg7⟩ : ∃ g7, g7 = wo.heap.size := ⟨_, rfl⟩
        have B7 : Blk w3 g7 [.int .i64 0, .string ⟨#[]⟩, .int .u32 0] 52 := by rw [hw3, hg7]; exact B7
        rw [← hw3] at k3
        have h57 : g5 ≠ g7 := by omega
        have h7o : wo.heap.size ≤ g7 := by omega
        have hwo : w.heap.size ≤ wo.heap.size := ke.size
        have RD3 := RD.nx k3
        have kx := k3.b g5
        have HW3 := Lib.hid hw3
        have HG7 := Lib.hid hg7
        have KW := Lib.hid kw
        clear hN0 own s6 nil6 hD RD hw3 hg7 k3 hne5 hlt6 kw
        go_upto_region 6 with fail
        rw [← HG7.out, ← HW3.out]
        clear q0 q1
        have HXP := HX.out
        have g55 : ¬ g5 = g7 := h57
        have g75 : ¬ g7 = g5 := fun h => h57 h.symm
        have q0 := RD3.blk.cell 0 _ rfl
        have q1 := RD3.blk.cell 1 _ rfl
        have y0 := RD3.blk.free 0
        have y1 := RD3.blk.free 1
        have p0 := B7.cell 0 _ rfl
        have p1 := B7.cell 1 _ rfl
        have p2 := B7.cell 2 _ rfl
        have z0 := B7.free 0
        have z1 := B7.free 1
        have z2 := B7.free 2
        go_wp2_with fail
        have RD3_n : n ≤ 9223372036854775807 := RD3.n2
        (with_reducible refine (rint_p _ _ _ _ true _ RD3.sl RD3.n2 RD3.nc RD3.cm RD3.form).mono ?_)
        rintro e w4b ⟨a4, n4, c4, rfl, s4, nc4, cm4, f4, x4, k4⟩
        have hnn : n4 ≤ n := by have h1 := s4.len; have h2 := RD3.sl.len; rw [List.length_drop] at h1; omega
        have hn4 : n4 ≤ 9223372036854775807 := Nat.le_trans hnn RD3.n2
        have HX4 : ∀ x oo, a4 = some ⟨x, oo, none⟩ → 0 < n4 → x < w.heap.size := by
          intro x oo he h0
          obtain ⟨o', ho⟩ := x4 x oo he
          exact HXP x o' ho (by omega)
        replace B7 := B7.nx k4
        have B5 := RD3.blk.nx k4
        replace kx := kx.nxb (k4.b g5)
        have ne57 : ∀ x oo, a4 = some ⟨x, oo, none⟩ → 0 < n4 → x ≠ g7 := fun x oo he h0 => by have := HX4 x oo he h0; omega
        have ne55 : ∀ x oo, a4 = some ⟨x, oo, none⟩ → 0 < n4 → x ≠ g5 := fun x oo he h0 => by have := HX4 x oo he h0; omega
        obtain ⟨ok4, hok4⟩ : ∃ b : Bool, b = (true && ((intR R).2.2 == 0)) := ⟨_, rfl⟩
        obtain ⟨v4, hv4⟩ : ∃ u : Int, u = (intR R).1 := ⟨_, rfl⟩
        rw [← hok4, ← hv4]
        have HOK4 := Lib.hid hok4
        have HV4 := Lib.hid hv4
        clear q0 q1 y0 y1 p0 p1 p2 z0 z1 z2
        have q0 := B5.cell 0 _ rfl
        have q1 := B5.cell 1 _ rfl
        have y0 := B5.free 0
        have y1 := B5.free 1
        have p0 := B7.cell 0 _ rfl
        have p1 := B7.cell 1 _ rfl
        have p2 := B7.cell 2 _ rfl
        have z0 := B7.free 0
        have z1 := B7.free 1
        have z2 := B7.free 2
        have B5 := B5.set_ne (j := 0) (.int .i64 v4) h57
        have s4 := sl_set s4 (p := ⟨g7, 0, none⟩) (.int .i64 v4) ne57
        replace B7 := B7.set 0 (.int .i64 v4)
        have kx := kx.setNew (p := ⟨g7, 0, none⟩) (.int .i64 v4) h7o
        have RD4 : Rdr _ g5 _ ok4 a4 n4 c4 := Rdr.put B5 rfl s4 hn4 nc4 cm4 f4 ne55
        replace B7 := (B7.set_ne (j := 0) (.slice a4 n4 c4) (fun h => h57 h.symm)).set_ne (j := 1) (.bool ok4) (fun h => h57 h.symm)
        replace kx := (kx.setB (p := ⟨g5, 0, none⟩) (.slice a4 n4 c4) rfl).setB (p := ⟨g5, 1, none⟩) (.bool ok4) rfl
        have kxh := Lib.hid kx
        clear hok4 hv4 kx
        go_upto_region 8 with fail
        clear q0 q1 y0 y1 p0 p1 p2 z0 z1 z2
        obtain ⟨w4c, hw4c⟩ : ∃ w4c, w4c = (((w4b.setCell ⟨g7, 0, none⟩ (.int .i64 v4)).setCell ⟨g5, 0, none⟩ (.slice a4 n4 c4)).setCell ⟨g5, 1, none⟩ (.bool ok4)) := ⟨_, rfl⟩
        have RD4 : Rdr w4c g5 (R.drop (intR R).2.1) ok4 a4 n4 c4 := by rw [hw4c]; exact RD4
        have B7 : Blk w4c g7 [.int .i64 v4, .string ⟨#[]⟩, .int .u32 0] 52 := by rw [hw4c]; exact B7
        have kx : Exb g5 wo w4c := by rw [hw4c]; exact kxh.out
        rw [← hw4c]
        have HXP := HX4
        clear hw4c kxh ne57 ne55 s4 f4 x4 k4 nc4 cm4 B5
        have q0 := RD4.blk.cell 0 _ rfl
        have q1 := RD4.blk.cell 1 _ rfl
        have y0 := RD4.blk.free 0
        have y1 := RD4.blk.free 1
        have p0 := B7.cell 0 _ rfl
        have p1 := B7.cell 1 _ rfl
        have p2 := B7.cell 2 _ rfl
        have z0 := B7.free 0
        have z1 := B7.free 1
        have z2 := B7.free 2
        go_wp2_with fail
        (with_reducible refine (rstr64_p _ _ _ _ _ _ RD4.sl RD4.n2 RD4.nc RD4.cm RD4.form).mono ?_)
        rintro e w6b ⟨a6, n6, c6, rfl, s6, nc6, cm6, f6, x6, k6⟩
        have hnn : n6 ≤ n4 := by have h1 := s6.len; have h2 := RD4.sl.len; rw [List.length_drop] at h1; omega
        have hn6 : n6 ≤ 9223372036854775807 := Nat.le_trans hnn RD4.n2
        have HX6 : ∀ x oo, a6 = some ⟨x, oo, none⟩ → 0 < n6 → x < w.heap.size := by
          intro x oo he h0
          obtain ⟨o', ho⟩ := x6 x oo he
          exact HXP x o' ho (by omega)
        replace B7 := B7.nx k6
        have B5 := RD4.blk.nx k6
        replace kx := kx.nxb (k6.b g5)
        have ne57 : ∀ x oo, a6 = some ⟨x, oo, none⟩ → 0 < n6 → x ≠ g7 := fun x oo he h0 => by have := HX6 x oo he h0; omega
        have ne55 : ∀ x oo, a6 = some ⟨x, oo, none⟩ → 0 < n6 → x ≠ g5 := fun x oo he h0 => by have := HX6 x oo he h0; omega
        obtain ⟨ok6, hok6⟩ : ∃ b : Bool, b = (ok4 && ((strN (R.drop (intR R).2.1) 64).2.2 == 0)) := ⟨_, rfl⟩
        obtain ⟨v6, hv6⟩ : ∃ u : ByteArray, u = (strN (R.drop (intR R).2.1) 64).1 := ⟨_, rfl⟩
        rw [← hok6, ← hv6]
        have HOK6 := Lib.hid hok6
        have HV6 := Lib.hid hv6
        clear q0 q1 y0 y1 p0 p1 p2 z0 z1 z2
        have q0 := B5.cell 0 _ rfl
        have q1 := B5.cell 1 _ rfl
        have y0 := B5.free 0
        have y1 := B5.free 1
        have p0 := B7.cell 0 _ rfl
        have p1 := B7.cell 1 _ rfl
        have p2 := B7.cell 2 _ rfl
        have z0 := B7.free 0
        have z1 := B7.free 1
        have z2 := B7.free 2
        have B5 := B5.set_ne (j := 1) (.string v6) h57
        have s6 := sl_set s6 (p := ⟨g7, 1, none⟩) (.string v6) ne57
        replace B7 := B7.set 1 (.string v6)
        have kx := kx.setNew (p := ⟨g7, 1, none⟩) (.string v6) h7o
        have RD6 : Rdr _ g5 _ ok6 a6 n6 c6 := Rdr.put B5 rfl s6 hn6 nc6 cm6 f6 ne55
        replace B7 := (B7.set_ne (j := 0) (.slice a6 n6 c6) (fun h => h57 h.symm)).set_ne (j := 1) (.bool ok6) (fun h => h57 h.symm)
        replace kx := (kx.setB (p := ⟨g5, 0, none⟩) (.slice a6 n6 c6) rfl).setB (p := ⟨g5, 1, none⟩) (.bool ok6) rfl
        have kxh := Lib.hid kx
        clear hok6 hv6 kx
        go_upto_region 9 with fail
        clear q0 q1 y0 y1 p0 p1 p2 z0 z1 z2
        obtain ⟨w6c, hw6c⟩ : ∃ w6c, w6c = (((w6b.setCell ⟨g7, 1, none⟩ (.string v6)).setCell ⟨g5, 0, none⟩ (.slice a6 n6 c6)).setCell ⟨g5, 1, none⟩ (.bool ok6)) := ⟨_, rfl⟩
        have RD6 : Rdr w6c g5 ((R.drop (intR R).2.1).drop (strN (R.drop (intR R).2.1) 64).2.1) ok6 a6 n6 c6 := by rw [hw6c]; exact RD6
        have B7 : Blk w6c g7 [.int .i64 v4, .string v6, .int .u32 0] 52 := by rw [hw6c]; exact B7
        have kx : Exb g5 wo w6c := by rw [hw6c]; exact kxh.out
        rw [← hw6c]
        have HXP := HX6
        clear hw6c kxh ne57 ne55 s6 f6 x6 k6 nc6 cm6 B5
        have q0 := RD6.blk.cell 0 _ rfl
        have q1 := RD6.blk.cell 1 _ rfl
        have y0 := RD6.blk.free 0
        have y1 := RD6.blk.free 1
        have p0 := B7.cell 0 _ rfl
        have p1 := B7.cell 1 _ rfl
        have p2 := B7.cell 2 _ rfl
        have z0 := B7.free 0
        have z1 := B7.free 1
        have z2 := B7.free 2
        go_wp2_with fail
        obtain ⟨R2, hR2⟩ : ∃ R2, R2 = (R.drop (intR R).2.1).drop (strN (R.drop (intR R).2.1) 64).2.1 := ⟨_, rfl⟩
        rw [← hR2] at RD6
        have HR2 := Lib.hid hR2
        clear hR2
        (with_reducible refine (ruint32_p _ _ _ _ _ _ RD6.sl RD6.n2 RD6.nc RD6.cm RD6.form).mono ?_)
        rintro e w8b ⟨a8, n8, c8, rfl, s8, nc8, cm8, f8, x8, k8⟩
        have hnn : n8 ≤ n6 := by have h1 := s8.len; have h2 := RD6.sl.len; rw [List.length_drop] at h1; omega
        have hn8 : n8 ≤ 9223372036854775807 := Nat.le_trans hnn RD6.n2
        have HX8 : ∀ x oo, a8 = some ⟨x, oo, none⟩ → 0 < n8 → x < w.heap.size := by
          intro x oo he h0
          obtain ⟨o', ho⟩ := x8 x oo he
          exact HXP x o' ho (by omega)
        replace B7 := B7.nx k8
        have B5 := RD6.blk.nx k8
        replace kx := kx.nxb (k8.b g5)
        have ne57 : ∀ x oo, a8 = some ⟨x, oo, none⟩ → 0 < n8 → x ≠ g7 := fun x oo he h0 => by have := HX8 x oo he h0; omega
        have ne55 : ∀ x oo, a8 = some ⟨x, oo, none⟩ → 0 < n8 → x ≠ g5 := fun x oo he h0 => by have := HX8 x oo he h0; omega
        obtain ⟨ok8, hok8⟩ : ∃ b : Bool, b = (ok6 && ((decR R2).2.2 == 0) && decide ((decR R2).1 ≤ 4294967295)) := ⟨_, rfl⟩
        obtain ⟨v8, hv8⟩ : ∃ u : Nat, u = (decR R2).1 := ⟨_, rfl⟩
        rw [← hok8, ← hv8]
        have HOK8 := Lib.hid hok8
        have HV8 := Lib.hid hv8
        clear q0 q1 y0 y1 p0 p1 p2 z0 z1 z2
        have q0 := B5.cell 0 _ rfl
        have q1 := B5.cell 1 _ rfl
        have y0 := B5.free 0
        have y1 := B5.free 1
        have p0 := B7.cell 0 _ rfl
        have p1 := B7.cell 1 _ rfl
        have p2 := B7.cell 2 _ rfl
        have z0 := B7.free 0
        have z1 := B7.free 1
        have z2 := B7.free 2
        have RD8 : Rdr _ g5 _ ok8 a8 n8 c8 := Rdr.put B5 rfl s8 hn8 nc8 cm8 f8 ne55
        replace B7 := (B7.set_ne (j := 0) (.slice a8 n8 c8) (fun h => h57 h.symm)).set_ne (j := 1) (.bool ok8) (fun h => h57 h.symm)
        replace kx := (kx.setB (p := ⟨g5, 0, none⟩) (.slice a8 n8 c8) rfl).setB (p := ⟨g5, 1, none⟩) (.bool ok8) rfl
        have kxh := Lib.hid kx
        clear hok8 hv8 kx
        go_upto_region 10 with fail
        clear q0 q1 y0 y1 p0 p1 p2 z0 z1 z2
        obtain ⟨w8c, hw8c⟩ : ∃ w8c, w8c = ((w8b.setCell ⟨g5, 0, none⟩ (.slice a8 n8 c8)).setCell ⟨g5, 1, none⟩ (.bool ok8)) := ⟨_, rfl⟩
        have RD8 : Rdr w8c g5 (R2.drop (decR R2).2.1) ok8 a8 n8 c8 := by rw [hw8c]; exact RD8
        have B7 : Blk w8c g7 [.int .i64 v4, .string v6, .int .u32 0] 52 := by rw [hw8c]; exact B7
        have kx : Exb g5 wo w8c := by rw [hw8c]; exact kxh.out
        rw [← hw8c]
        have HXP := HX8
        clear hw8c kxh ne57 ne55 s8 f8 x8 k8 nc8 cm8 B5
        have q0 := RD8.blk.cell 0 _ rfl
        have q1 := RD8.blk.cell 1 _ rfl
        have y0 := RD8.blk.free 0
        have y1 := RD8.blk.free 1
        have p0 := B7.cell 0 _ rfl
        have p1 := B7.cell 1 _ rfl
        have p2 := B7.cell 2 _ rfl
        have z0 := B7.free 0
        have z1 := B7.free 1
        have z2 := B7.free 2
        have hww : IntKind.u32.wrap (v8 : Int) = ((v8 % 4294967296 : Nat) : Int) := by rw [wrap_u32n]; omega
        have B5 := RD8.blk
        have B7w := B7.set 2 (.int .u32 ((v8 % 4294967296 : Nat) : Int))
        have kxw := Lib.hid (kx.setNew (p := ⟨g7, 2, none⟩) (.int .u32 ((v8 % 4294967296 : Nat) : Int)) h7o)
        have B5w := B5.set_ne (j := 2) (.int .u32 ((v8 % 4294967296 : Nat) : Int)) h57
        have SW := sl_set RD8.sl (p := ⟨g7, 2, none⟩) (.int .u32 ((v8 % 4294967296 : Nat) : Int)) (fun x oo he h0 => by have := HX8 x oo he h0; show x ≠ g7; omega)
        go_upto_region 11 with fail
        obtain ⟨w9, hw9⟩ : ∃ w9, w9 = w8c.setCell ⟨g7, 2, none⟩ (.int .u32 ((v8 % 4294967296 : Nat) : Int)) := ⟨_, rfl⟩
        clear q0 q1 y0 y1 p0 p1 p2 z0 z1 z2 B7 B5 kx
        have B7 : Blk w9 g7 [.int .i64 v4, .string v6, .int .u32 ((v8 % 4294967296 : Nat) : Int)] 52 := by rw [hw9]; exact B7w
        have B5 : Blk w9 g5 [.slice a8 n8 c8, .bool ok8] 67 := by rw [hw9]; exact B5w
        have kx : Exb g5 wo w9 := by rw [hw9]; exact kxw.out
        have S9 : Sl 1 encB w9 a8 n8 (R2.drop (decR R2).2.1) := by rw [hw9]; exact SW
        rw [show ((v8 : Int) % 4294967296) = ((v8 % 4294967296 : Nat) : Int) from by omega]
        rw [← hw9]
        have p0 := B7.cell 0 _ rfl
        have p1 := B7.cell 1 _ rfl
        have p2 := B7.cell 2 _ rfl
        have own9 := OWN.out.chg kx (fun x hx hv => ⟨hx, NE6.out x hv⟩)
        have kw9 := KW.out.nxb kx
        have zz9 := kw9.size
        have RD8n := RD8.nc
        have RD8c := RD8.cm
        have RD8f := Lib.hid RD8.form
        have RD82 := RD8.n2
        obtain ⟨wd, hwd⟩ : ∃ wd, wd = v8 % 4294967296 := ⟨_, rfl⟩
        rw [← hwd] at p2 ⊢
        have HWD := Lib.hid hwd
        have NEQ := NE6.out
        clear hw9 B7w B5w kxw SW RD8 B7 KW kx hwd hww
        go_wp2_with (at_builtin; (refine wpList_append_lit (enc := encN) w9 rfl _ _ 26 rfl w2.heap.size 52 (.agg #[.int .i64 0, .string ByteArray.empty, .int .u32 0]) 3 32 Tryd.underlying26 Tryd.infoN rfl (by omega) (by omega) _ _ own9 rfl (⟨v4, v6, wd⟩ : Nd) _ rfl rfl (by simp [encN, Value.oneCell']) _ (by simp) rfl (by omega) zz9 _ ?_); intro v10 w10 own10 ch0 ch1 _; have B5 : Blk w10 g5 _ _ := (ch0.block g5 ⟨B5.lt, fun hv => NEQ g5 hv rfl⟩).trans B5; have q1 := B5.cell 1 _ rfl)
        have B5' : Blk w10 g5 [.slice a8 n8 c8, .bool ok8] 67 := B5
        have S10 : Sl 1 encB w10 a8 n8 (R2.drop (decR R2).2.1) := by
          refine ⟨S9.1, ?_⟩
          rcases S9.2 with h0 | ⟨x, o, e1, e2, e3⟩
          · exact .inl h0
          · rcases Nat.eq_zero_or_pos n8 with h0 | h0
            · exact .inl h0
            · exact .inr ⟨x, o, e1, Nat.lt_of_lt_of_le e2 ch0.size, fun j y hj c u hu => by rw [ch1.cell (p := ⟨x, _, none⟩) (by have := HX8 x o e1 h0; show x < w2.heap.size; omega)]; exact e3 j y hj c u hu⟩
        have kw10 : Exb g5 w2 w10 := Chg.trans kw9 (ch1.mono (fun x hx => hx.1))
        have ST := contN_step m out R ok4 ok6 ok8 (by rw [HOK4.out, Bool.true_and]) HOK6.out (by rw [HOK8.out, HR2.out])
        rw [← HR2.out, ← HV4.out, ← HV6.out, ← HV8.out, ← HWD.out] at ST
        refine ⟨⟨m, out ++ [⟨v4, v6, wd⟩], R2.drop (decR R2).2.1, ok8, a8, n8, c8, by go_num, own10, ⟨B5', S10, RD82, RD8n, RD8c, RD8f.out⟩, HX8, kw10, fun ho => ?_, fun ho => ?_⟩, by simp [intOf]; try omega⟩
        · rw [HD.out, ST, if_pos ho]
          exact ⟨rfl, by simp; omega⟩
        · rw [HD.out, ST, ho]
          rfl
end Go.Proofs.YtjaemckdfoaopabDoor

/- DecodeNodes of the reference. -/
namespace Go.Proofs.YtjaemckdfoaopabDoor
open Go.RowKit

theorem decN_ok {B : List UInt8} {R : List UInt8} {N : Nat} (h : okB false (pU 64 B) = some (N, R)) : decN B = contN N [] R ∧ N ≤ 64 := by
  have h' : pU 64 B = some (N, R) := h
  refine ⟨by unfold decN; rw [h']; rfl, ?_⟩
  unfold pU at h'
  split at h'
  · rename_i hc; cases h'; exact hc.2
  · cases h'
theorem decN_no {B : List UInt8} (h : okB false (pU 64 B) = none) : decN B = none := by
  have h' : pU 64 B = none := h
  unfold decN; rw [h']; rfl
theorem pU_le {l : Nat} {B R : List UInt8} {N : Nat} (h : pU l B = some (N, R)) : N ≤ l := by
  unfold pU at h
  split at h
  · rename_i hc; cases h; exact hc.2
  · cases h
/-- three reads, one after another -/
theorem contN_ok {m : Nat} {out : List Nd} {R R1 R2 R3 : List UInt8} {v : Int} {s : ByteArray} {u : Nat} (h1 : okB false (pI R) = some (v, R1)) (h2 : okB false (pS R1) = some (s, R2)) (h3 : okB false (pU 4294967295 R2) = some (u, R3)) :
    contN (m + 1) out R = contN m (out ++ [⟨v, s, u % 4294967296⟩]) R3 := by
  have h1 : pI R = some (v, R1) := h1
  have h2 : pS R1 = some (s, R2) := h2
  have h3 : pU 4294967295 R2 = some (u, R3) := h3
  have := pU_le h3
  show (pI R).bind _ = _
  rw [h1, Option.bind_some, h2, Option.bind_some, h3, Option.bind_some, Nat.mod_eq_of_lt (by omega)]
theorem contN_no {m : Nat} {out : List Nd} {R R1 R2 : List UInt8} {v : Int} {s : ByteArray} {b1 b2 : Bool} (k1 : b1 = false → okB false (pI R) = some (v, R1)) (n1 : b1 = true → okB false (pI R) = none)
    (k2 : b2 = false → okB b1 (pS R1) = some (s, R2)) (n2 : b2 = true → okB b1 (pS R1) = none) (h3 : okB b2 (pU 4294967295 R2) = none) : contN (m + 1) out R = none := by
  show (pI R).bind _ = _
  cases b1 with
  | true =>
    have h1 : pI R = none := n1 rfl
    rw [h1]; rfl
  | false =>
    have h1 : pI R = some (v, R1) := k1 rfl
    rw [h1, Option.bind_some]
    cases b2 with
    | true =>
      have h2 : pS R1 = none := n2 rfl
      rw [h2]; rfl
    | false =>
      have h2 : pS R1 = some (s, R2) := k2 rfl
      have h3 : pU 4294967295 R2 = none := h3
      rw [h2, Option.bind_some, h3]; rfl
theorem own_neF {e : TypeId} {base : Nat} {w : World} {v : Value} {l : List Nd} {g : Nat} {cs : List Value} {ty : TypeId} (h : OwnL 3 encN e base w v l) (B : Blk w g cs ty) (hne : ty ≠ e) : ∀ x, v.ownBlock = some x → x ≠ g := own_ne h B hne
end Go.Proofs.YtjaemckdfoaopabDoor

/- DecodeLinks of the reference. -/
namespace Go.Proofs.YtjaemckdfoaopabDoor
open Go.RowKit

def contV : Nat → List (Int × Int) → List UInt8 → Option (List (Int × Int) × List UInt8)
  | 0, row, R => some (row, R)
  | m + 1, row, R => (pI R).bind fun r1 => (pI r1.2).bind fun r2 => contV m (row ++ [(r1.1, r2.1)]) r2.2
def contK : Nat → List Lkd → List UInt8 → Option (List Lkd)
  | 0, out, R => if R.length = 0 then some out else none
  | m + 1, out, R => (pI R).bind fun r1 => (pU 17 r1.2).bind fun r2 => (contV r2.1 [] r2.2).bind fun r3 => contK m (out ++ [(r1.1, r3.1)]) r3.2
def decL (R : List UInt8) : Option (List Lkd) := (pU 64 R).bind fun r => contK r.1 [] r.2
def decLd (R : List UInt8) : List Lkd × Int := match decL R with | some l => (l, 0) | none => ([], 4)
theorem decL_ok {B : List UInt8} {R : List UInt8} {N : Nat} (h : okB false (pU 64 B) = some (N, R)) : decL B = contK N [] R ∧ N ≤ 64 := by
  have h' : pU 64 B = some (N, R) := h
  exact ⟨by unfold decL; rw [h']; rfl, pU_le h'⟩
theorem decL_no {B : List UInt8} (h : okB false (pU 64 B) = none) : decL B = none := by
  have h' : pU 64 B = none := h
  unfold decL; rw [h']; rfl
/-- the rest of a list, behind the levels of one node -/
def contVK (m : Nat) (out : List Lkd) (v : Int) (N : Nat) (row : List (Int × Int)) (R : List UInt8) : Option (List Lkd) := (contV N row R).bind fun r3 => contK m (out ++ [(v, r3.1)]) r3.2
theorem contK_ok {m : Nat} {out : List Lkd} {R R1 R2 : List UInt8} {v : Int} {u : Nat} (h1 : okB false (pI R) = some (v, R1)) (h2 : okB false (pU 17 R1) = some (u, R2)) : contK (m + 1) out R = contVK m out v u [] R2 ∧ u ≤ 17 := by
  have h1 : pI R = some (v, R1) := h1
  have h2 : pU 17 R1 = some (u, R2) := h2
  refine ⟨?_, pU_le h2⟩
  show (pI R).bind _ = _
  rw [h1, Option.bind_some, h2, Option.bind_some]
  rfl
theorem contK_no {m : Nat} {out : List Lkd} {R R1 : List UInt8} {v : Int} {b1 : Bool} (k1 : b1 = false → okB false (pI R) = some (v, R1)) (n1 : b1 = true → okB false (pI R) = none) (h2 : okB b1 (pU 17 R1) = none) : contK (m + 1) out R = none := by
  show (pI R).bind _ = _
  cases b1 with
  | true =>
    have h1 : pI R = none := n1 rfl
    rw [h1]; rfl
  | false =>
    have h1 : pI R = some (v, R1) := k1 rfl
    have h2 : pU 17 R1 = none := h2
    rw [h1, Option.bind_some, h2]; rfl
theorem contVK_zero (m : Nat) (out : List Lkd) (v : Int) (row : List (Int × Int)) (R : List UInt8) : contVK m out v 0 row R = contK m (out ++ [(v, row)]) R := rfl
theorem contVK_ok {m j : Nat} {out : List Lkd} {i : Int} {row : List (Int × Int)} {R R1 R2 : List UInt8} {v u : Int} (h1 : okB false (pI R) = some (v, R1)) (h2 : okB false (pI R1) = some (u, R2)) : contVK m out i (j + 1) row R = contVK m out i j (row ++ [(v, u)]) R2 := by
  have h1 : pI R = some (v, R1) := h1
  have h2 : pI R1 = some (u, R2) := h2
  show ((pI R).bind _).bind _ = _
  rw [h1, Option.bind_some, h2, Option.bind_some]
  rfl
theorem contVK_no {m j : Nat} {out : List Lkd} {i : Int} {row : List (Int × Int)} {R R1 : List UInt8} {v : Int} {b1 : Bool} (k1 : b1 = false → okB false (pI R) = some (v, R1)) (n1 : b1 = true → okB false (pI R) = none) (h2 : okB b1 (pI R1) = none) : contVK m out i (j + 1) row R = none := by
  show ((pI R).bind _).bind _ = _
  cases b1 with
  | true =>
    have h1 : pI R = none := n1 rfl
    rw [h1]; rfl
  | false =>
    have h1 : pI R = some (v, R1) := k1 rfl
    have h2 : pI R1 = none := h2
    rw [h1, Option.bind_some, h2]; rfl
end Go.Proofs.YtjaemckdfoaopabDoor

/- Nodes and links as bytes, and back: plain laws. -/
namespace Go.Proofs.YtjaemckdfoaopabDoor
open Go.RowKit

/-- a number that is read is written with the same bytes -/
theorem decA_canon : ∀ (b : List UInt8) (i n N K : Nat), decA b i n = some (N, K) → i ≤ 9 → ∃ m, N = n + m * 2 ^ (7 * i) ∧ (0 < i → 0 < m) ∧ b.take (K - i) = encF (9 - i) m
  | [], i, n, N, K, h, _ => by simp [decA] at h
  | c :: r, i, n, N, K, h, hi => by
    unfold decA at h
    split at h
    · cases h
    · rename_i hg
      split at h
      · rename_i hc
        cases h
        refine ⟨c.toNat, rfl, fun h0 => by omega, ?_⟩
        rw [encF_lt _ _ hc, show i + 1 - i = 1 by omega]
        show [c] = [byt c.toNat]
        unfold byt
        rw [UInt8.ofNat_toNat]
      · rename_i hc
        have hi9 : i ≠ 9 := by omega
        obtain ⟨m, h1, h2, h3⟩ := decA_canon r (i + 1) _ N K h (by omega)
        have hk := (decA_take h).1
        have hm := h2 (by omega)
        have hc2 : c.toNat < 256 := c.toNat_lt
        refine ⟨c.toNat % 128 + 128 * m, ?_, fun _ => by omega, ?_⟩
        · rw [h1, show 7 * (i + 1) = 7 * i + 7 by omega, Nat.pow_add, Nat.add_mul, Nat.add_assoc]
          congr 2
          rw [show (2 : Nat) ^ 7 = 128 from rfl, Nat.mul_comm (2 ^ (7 * i)) 128, ← Nat.mul_assoc, Nat.mul_comm m 128]
        · rw [show K - i = (K - (i + 1)) + 1 by omega, List.take_succ_cons, h3, show 9 - i = (9 - (i + 1)) + 1 by omega]
          conv => rhs; unfold encF
          rw [if_neg (by omega)]
          have e1 : (c.toNat % 128 + 128 * m) % 128 + 128 = c.toNat := by omega
          have e2 : (c.toNat % 128 + 128 * m) / 128 = m := by omega
          rw [e1, e2]
          unfold byt
          rw [UInt8.ofNat_toNat]
theorem decU_canon {b : List UInt8} {N K : Nat} (h : decU b = some (N, K)) : b = encU N ++ b.drop K := by
  obtain ⟨m, h1, _, h3⟩ := decA_canon b 0 0 N K h (by omega)
  have : N = m := by simpa using h1
  subst this
  have h3 : b.take K = encU N := h3
  rw [← h3, List.take_append_drop]
theorem decR_ok {R : List UInt8} (h : (decR R).2.2 = 0) : decU R = some ((decR R).1, (decR R).2.1) := by
  unfold decR numR at *
  cases e : decU R with
  | none => rw [e] at h; cases h
  | some r => rfl
theorem pU_canon {lim N : Nat} {R R' : List UInt8} (h : pU lim R = some (N, R')) : R = encU N ++ R' ∧ N ≤ lim := by
  unfold pU at h
  split at h
  · rename_i hh
    have := decU_canon (decR_ok hh.1)
    cases h
    exact ⟨this, hh.2⟩
  · cases h
theorem pU_enc {lim N : Nat} (R' : List UInt8) (h1 : N ≤ lim) (h2 : N < 18446744073709551616) : pU lim (encU N ++ R') = some (N, R') := by
  have e : decR (encU N ++ R') = (N, (encU N).length, 0) := by unfold decR; rw [decU_encU N R' h2]; rfl
  unfold pU
  rw [e, if_pos ⟨rfl, h1⟩, List.drop_left]
theorem zig_unzig {N : Nat} (h : N < 18446744073709551616) : zig (unzig N) = N ∧ I64 (unzig N) := by
  unfold unzig zig I64
  split <;> (refine ⟨?_, ?_, ?_⟩ <;> (try split) <;> omega)
theorem pI_canon {v : Int} {R R' : List UInt8} (h : pI R = some (v, R')) : R = encU (zig v) ++ R' ∧ I64 v := by
  unfold pI intR at h
  cases e : decU R with
  | none => rw [e] at h; simp at h
  | some r =>
    obtain ⟨N, K⟩ := r
    rw [e] at h
    simp only [if_true, Option.some.injEq, Prod.mk.injEq] at h
    obtain ⟨rfl, rfl⟩ := h
    obtain ⟨z1, z2⟩ := zig_unzig (decU_lt e).1
    rw [z1]
    exact ⟨decU_canon e, z2⟩
theorem pI_enc {v : Int} (R' : List UInt8) (h : I64 v) : pI (encU (zig v) ++ R') = some (v, R') := by
  unfold pI intR
  rw [decU_encU _ R' (zig_lt h.1 h.2)]
  simp only [if_true, unzig_zig, List.drop_left]
theorem pS_canon {s : ByteArray} {R R' : List UInt8} (h : pS R = some (s, R')) : R = encStr s ++ R' ∧ s.size ≤ 64 := by
  unfold pS strN strR at h
  cases e : decU R with
  | none => rw [e] at h; simp at h
  | some r =>
    obtain ⟨N, K⟩ := r
    rw [e] at h
    have hc := decU_canon e
    have hk := (decU_take e).2
    by_cases h1 : ((64 : Nat) : Int) < 0 ∨ ((64 : Nat) : Int) < (N : Int)
    · simp only [if_pos h1] at h; simp at h
    · simp only [if_neg h1] at h
      by_cases h2 : R.length - K < N
      · simp only [if_pos h2] at h; simp at h
      · simp only [if_neg h2] at h
        simp only [Int.toNat_zero, if_true, Option.some.injEq, Prod.mk.injEq] at h
        obtain ⟨rfl, rfl⟩ := h
        have hN : N ≤ 64 := by omega
        have hsz : (strB ((R.drop K).take N)).size = N := by
          show ((R.drop K).take N).toArray.size = N
          rw [List.size_toArray, List.length_take, List.length_drop]; omega
        refine ⟨?_, by omega⟩
        unfold encStr
        rw [hsz, bytes_str, List.append_assoc]
        have e2 : ((K : Int) + N).toNat = K + N := by omega
        rw [e2, ← List.drop_drop, List.take_append_drop]
        exact hc
theorem pS_enc {s : ByteArray} (R' : List UInt8) (h : s.size ≤ 64) : pS (encStr s ++ R') = some (s, R') := by
  have hb := bytesOf_length s
  unfold pS strN strR encStr
  rw [List.append_assoc, decU_encU _ _ (by omega)]
  have h1 : ¬ (((64 : Nat) : Int) < 0 ∨ ((64 : Nat) : Int) < (s.size : Int)) := by omega
  have h2 : ¬ (encU s.size ++ (bytesOf s ++ R')).length - (encU s.size).length < s.size := by
    rw [List.length_append, List.length_append]; omega
  simp only [if_neg h1, if_neg h2]
  have e2 : (((encU s.size).length : Int) + s.size).toNat = (encU s.size).length + s.size := by omega
  simp only [Int.toNat_zero, if_true, e2, List.drop_left, Option.some.injEq, Prod.mk.injEq]
  refine ⟨?_, ?_⟩
  · rw [← hb, List.take_left, strB_bytes]
  · rw [← List.drop_drop, List.drop_left, ← hb, List.drop_left]

/-- a node that goes to bytes and back -/
def NRt (x : Nd) : Prop := I64 x.id ∧ x.word ≤ 4294967295 ∧ x.key.size ≤ 64
theorem contN_enc : ∀ (l out : List Nd), (∀ x ∈ l, NRt x) → contN l.length out (l.flatMap encNd) = some (out ++ l)
  | [], out, _ => by simp [contN]
  | x :: l, out, h => by
    obtain ⟨h1, h2, h3⟩ := h x (by simp)
    show (pI _).bind _ = _
    rw [List.flatMap_cons]
    rw [show encNd x = encU (zig x.id) ++ encStr x.key ++ encU x.word from rfl, List.append_assoc, List.append_assoc, pI_enc _ h1, Option.bind_some, pS_enc _ h3, Option.bind_some, pU_enc _ h2 (by omega), Option.bind_some]
    rw [contN_enc l _ (fun y hy => h y (by simp [hy]))]
    simp
theorem contN_canon : ∀ (m : Nat) (out : List Nd) (R : List UInt8) (l : List Nd), contN m out R = some l → ∃ l', l = out ++ l' ∧ l'.length = m ∧ R = l'.flatMap encNd ∧ ∀ x ∈ l', NRt x
  | 0, out, R, l, h => by
    unfold contN at h
    split at h
    · rename_i h0
      cases h
      exact ⟨[], by simp, rfl, by simpa using List.eq_nil_of_length_eq_zero h0, by simp⟩
    · cases h
  | m + 1, out, R, l, h => by
    have h : (pI R).bind (fun r1 => (pS r1.2).bind fun r2 => (pU 4294967295 r2.2).bind fun r3 => contN m (out ++ [⟨r1.1, r2.1, r3.1⟩]) r3.2) = some l := h
    cases e1 : pI R with
    | none => rw [e1] at h; cases h
    | some r1 =>
      obtain ⟨v, R1⟩ := r1
      rw [e1, Option.bind_some] at h
      cases e2 : pS R1 with
      | none => rw [e2] at h; cases h
      | some r2 =>
        obtain ⟨s, R2⟩ := r2
        rw [e2, Option.bind_some] at h
        cases e3 : pU 4294967295 R2 with
        | none => rw [e3] at h; cases h
        | some r3 =>
          obtain ⟨u, R3⟩ := r3
          rw [e3, Option.bind_some] at h
          obtain ⟨l', h1, h2, h3, h4⟩ := contN_canon m _ R3 l h
          obtain ⟨c1, i1⟩ := pI_canon e1
          obtain ⟨c2, i2⟩ := pS_canon e2
          obtain ⟨c3, i3⟩ := pU_canon e3
          refine ⟨⟨v, s, u⟩ :: l', by rw [h1]; simp, by simp [h2], ?_, ?_⟩
          · rw [List.flatMap_cons, ← h3]
            show R = encU (zig v) ++ encStr s ++ encU u ++ R3
            rw [List.append_assoc, List.append_assoc, ← c3, ← c2]
            exact c1
          · intro x hx
            rcases List.mem_cons.1 hx with rfl | hx
            · exact ⟨i1, i3, i2⟩
            · exact h4 x hx
/-- what encoding gives is decoded to the nodes -/
theorem dec_enc_nodes {l : List Nd} (h : ∀ x ∈ l, NRt x) (hl : l.length ≤ 64) : (encNds l).2 = 0 ∧ decNd (encNds l).1 = (l, 0) := by
  have ha : l.any (fun x => decide (64 < x.key.size)) = false := by
    rw [List.any_eq_false]
    intro x hx
    have := (h x hx).2.2
    simp; omega
  have e : encNds l = (encU l.length ++ l.flatMap encNd, 0) := by
    unfold encNds
    rw [if_neg (by omega), ha]
    rfl
  rw [e]
  refine ⟨rfl, ?_⟩
  have hd : decN (encU l.length ++ l.flatMap encNd) = some l := by
    unfold decN
    rw [pU_enc _ hl (by omega), Option.bind_some]
    rw [contN_enc l [] h]
    simp
  unfold decNd
  rw [hd]
/-- what is decoded to nodes is their encoding -/
theorem enc_dec_nodes {B : List UInt8} (h : (decNd B).2 = 0) : encNds (decNd B).1 = (B, 0) ∧ ∀ x ∈ (decNd B).1, NRt x := by
  unfold decNd at *
  cases e : decN B with
  | none => rw [e] at h; cases h
  | some l =>
    simp only
    unfold decN at e
    cases e1 : pU 64 B with
    | none => rw [e1] at e; cases e
    | some r =>
      obtain ⟨N, R⟩ := r
      rw [e1, Option.bind_some] at e
      obtain ⟨l', h1, h2, h3, h4⟩ := contN_canon _ _ _ _ e
      obtain ⟨c1, i1⟩ := pU_canon e1
      have hl : l = l' := by simpa using h1
      subst hl
      refine ⟨?_, h4⟩
      have ha : l.any (fun x => decide (64 < x.key.size)) = false := by
        rw [List.any_eq_false]
        intro x hx
        have := (h4 x hx).2.2
        simp; omega
      unfold encNds
      rw [if_neg (by omega), ha]
      show (encU l.length ++ l.flatMap encNd, 0) = _
      rw [← h3, h2, ← c1]
/-- links that go to bytes and back -/
def LRt (c : Lkd) : Prop := I64 c.1 ∧ c.2.length ≤ 17 ∧ ∀ y ∈ c.2, I64 y.1 ∧ I64 y.2
theorem contV_enc : ∀ (l row : List (Int × Int)) (R : List UInt8), (∀ y ∈ l, I64 y.1 ∧ I64 y.2) → contV l.length row (l.flatMap encLv ++ R) = some (row ++ l, R)
  | [], row, R, _ => by simp [contV]
  | y :: l, row, R, h => by
    obtain ⟨h1, h2⟩ := h y (by simp)
    show (pI _).bind _ = _
    rw [List.flatMap_cons]
    rw [show encLv y = encU (zig y.1) ++ encU (zig y.2) from rfl, List.append_assoc, List.append_assoc, pI_enc _ h1, Option.bind_some, pI_enc _ h2, Option.bind_some]
    rw [contV_enc l (row ++ [(y.1, y.2)]) R (fun z hz => h z (by simp [hz]))]
    simp
theorem contV_canon : ∀ (m : Nat) (row : List (Int × Int)) (R : List UInt8) (r : List (Int × Int) × List UInt8), contV m row R = some r → ∃ l', r.1 = row ++ l' ∧ l'.length = m ∧ R = l'.flatMap encLv ++ r.2 ∧ ∀ y ∈ l', I64 y.1 ∧ I64 y.2
  | 0, row, R, r, h => by cases h; exact ⟨[], by simp, rfl, by simp, by simp⟩
  | m + 1, row, R, r, h => by
    have h : (pI R).bind (fun r1 => (pI r1.2).bind fun r2 => contV m (row ++ [(r1.1, r2.1)]) r2.2) = some r := h
    cases e1 : pI R with
    | none => rw [e1] at h; cases h
    | some r1 =>
      obtain ⟨v, R1⟩ := r1
      rw [e1, Option.bind_some] at h
      cases e2 : pI R1 with
      | none => rw [e2] at h; cases h
      | some r2 =>
        obtain ⟨u, R2⟩ := r2
        rw [e2, Option.bind_some] at h
        obtain ⟨l', h1, h2, h3, h4⟩ := contV_canon m _ R2 r h
        obtain ⟨c1, i1⟩ := pI_canon e1
        obtain ⟨c2, i2⟩ := pI_canon e2
        refine ⟨(v, u) :: l', by rw [h1]; simp, by simp [h2], ?_, ?_⟩
        · rw [List.flatMap_cons, List.append_assoc, ← h3]
          show R = encU (zig v) ++ encU (zig u) ++ R2
          rw [List.append_assoc, ← c2]
          exact c1
        · intro x hx
          rcases List.mem_cons.1 hx with rfl | hx
          · exact ⟨i1, i2⟩
          · exact h4 x hx
theorem contK_enc : ∀ (l out : List Lkd), (∀ x ∈ l, LRt x) → contK l.length out (l.flatMap encLk) = some (out ++ l)
  | [], out, _ => by simp [contK]
  | x :: l, out, h => by
    obtain ⟨h1, h2, h3⟩ := h x (by simp)
    show (pI _).bind _ = _
    rw [List.flatMap_cons]
    rw [show encLk x = encU (zig x.1) ++ encU x.2.length ++ x.2.flatMap encLv from rfl, List.append_assoc, List.append_assoc, pI_enc _ h1, Option.bind_some, pU_enc _ h2 (by omega), Option.bind_some]
    rw [contV_enc x.2 [] _ h3, Option.bind_some]
    rw [List.nil_append, contK_enc l (out ++ [(x.1, x.2)]) (fun y hy => h y (by simp [hy]))]
    simp
theorem contK_canon : ∀ (m : Nat) (out : List Lkd) (R : List UInt8) (l : List Lkd), contK m out R = some l → ∃ l', l = out ++ l' ∧ l'.length = m ∧ R = l'.flatMap encLk ∧ ∀ x ∈ l', LRt x
  | 0, out, R, l, h => by
    unfold contK at h
    split at h
    · rename_i h0
      cases h
      exact ⟨[], by simp, rfl, by simpa using List.eq_nil_of_length_eq_zero h0, by simp⟩
    · cases h
  | m + 1, out, R, l, h => by
    have h : (pI R).bind (fun r1 => (pU 17 r1.2).bind fun r2 => (contV r2.1 [] r2.2).bind fun r3 => contK m (out ++ [(r1.1, r3.1)]) r3.2) = some l := h
    cases e1 : pI R with
    | none => rw [e1] at h; cases h
    | some r1 =>
      obtain ⟨v, R1⟩ := r1
      rw [e1, Option.bind_some] at h
      cases e2 : pU 17 R1 with
      | none => rw [e2] at h; cases h
      | some r2 =>
        obtain ⟨u, R2⟩ := r2
        rw [e2, Option.bind_some] at h
        cases e3 : contV u [] R2 with
        | none => rw [e3] at h; cases h
        | some r3 =>
          obtain ⟨row, R3⟩ := r3
          rw [e3, Option.bind_some] at h
          obtain ⟨l', h1, h2, h3, h4⟩ := contK_canon m _ R3 l h
          obtain ⟨row', w1, w2, w3, w4⟩ := contV_canon _ _ _ _ e3
          have w1 : row = row' := by simpa using w1
          subst w1
          obtain ⟨c1, i1⟩ := pI_canon e1
          obtain ⟨c2, i2⟩ := pU_canon e2
          refine ⟨(v, row) :: l', by rw [h1]; simp, by simp [h2], ?_, ?_⟩
          · rw [List.flatMap_cons, ← h3]
            show R = encU (zig v) ++ encU row.length ++ row.flatMap encLv ++ R3
            have w3 : R2 = row.flatMap encLv ++ R3 := w3
            rw [w2, List.append_assoc, List.append_assoc, ← w3, ← c2]
            exact c1
          · intro x hx
            rcases List.mem_cons.1 hx with rfl | hx
            · exact ⟨i1, by show row.length ≤ 17; omega, w4⟩
            · exact h4 x hx
theorem dec_enc_links {l : List Lkd} (h : ∀ x ∈ l, I64 x.1 ∧ ∀ y ∈ x.2, I64 y.1 ∧ I64 y.2) (h0 : (encLks l).2 = 0) : decLd (encLks l).1 = (l, 0) := by
  unfold encLks at *
  split at h0
  · cases h0
  · rename_i hl
    split at h0
    · cases h0
    · rename_i ha
      have hr : ∀ x ∈ l, LRt x := fun x hx => ⟨(h x hx).1, by
        by_cases h17 : 17 < x.2.length
        · exact absurd (List.any_eq_true.2 ⟨x, hx, by simpa using h17⟩) ha
        · omega, (h x hx).2⟩
      rw [if_neg hl, if_neg ha]
      have hd : decL (encU l.length ++ l.flatMap encLk) = some l := by
        unfold decL
        rw [pU_enc _ (by omega) (by omega), Option.bind_some]
        rw [contK_enc l [] hr]
        simp
      unfold decLd
      rw [hd]
theorem enc_dec_links {B : List UInt8} (h : (decLd B).2 = 0) : encLks (decLd B).1 = (B, 0) ∧ ∀ x ∈ (decLd B).1, LRt x := by
  unfold decLd at *
  cases e : decL B with
  | none => rw [e] at h; cases h
  | some l =>
    simp only
    unfold decL at e
    cases e1 : pU 64 B with
    | none => rw [e1] at e; cases e
    | some r =>
      obtain ⟨N, R⟩ := r
      rw [e1, Option.bind_some] at e
      obtain ⟨l', h1, h2, h3, h4⟩ := contK_canon _ _ _ _ e
      obtain ⟨c1, i1⟩ := pU_canon e1
      have hl : l = l' := by simpa using h1
      subst hl
      refine ⟨?_, h4⟩
      have ha : l.any (fun c => decide (17 < c.2.length)) = false := by
        rw [List.any_eq_false]
        intro x hx
        have := (h4 x hx).2.1
        simp; omega
      unfold encLks
      rw [if_neg (by omega), ha]
      show (encU l.length ++ l.flatMap encLk, 0) = _
      rw [← h3, h2, ← c1]
end Go.Proofs.YtjaemckdfoaopabDoor
