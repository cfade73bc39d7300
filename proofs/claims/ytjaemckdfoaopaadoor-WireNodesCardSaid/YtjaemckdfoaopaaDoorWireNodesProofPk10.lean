/- Texts for the statement WireNodesProof, part 10 of 12: RdrB, DecS. -/
import Derived.Test.YtjaemckdfoaopaaDoorWireNodesProofPk9

/- The reader of strings of the package wire. -/
namespace Go.Proofs.YtjaemckdfoaopaaDoor
open Go.RowKit

set_option maxRecDepth 100000 in
set_option maxHeartbeats 4000000 in
theorem rstr_p (a : Option Addr) (n c : Nat) (R : List UInt8) (ok : Bool) (lim : Nat) (w : World) (h : Sl 1 encB w a n R) (hn : n ≤ 9223372036854775807) (hc : n ≤ c) (hm : c ≤ maxLen) (hf : Form a c) (hlim : lim ≤ 1000) :
    Calls Tryd.prog 56 #[.agg #[.slice a n c, .bool ok], .int .i64 lim] w (RdPost (.string (strN R lim).1) (R.drop (strN R lim).2.1) (ok && ((strN R lim).2.2 == 0)) a w) := by
  have hlen := h.len
  have hk : (strN R lim).2.1 ≤ R.length := strN_take R lim
  rw [hlen] at hk
  have k1 := Ex.new w (.cells #[.slice a n c, .bool ok] 91)
  have B1 := Blk.new w [.slice a n c, .bool ok] 91
  obtain ⟨w1, hw1⟩ : ∃ w1, w1 = w.alloc (.cells #[.slice a n c, .bool ok] 91) := ⟨_, rfl⟩
  obtain ⟨g1, hg1⟩ : ∃ g1, g1 = w.heap.size := ⟨_, rfl⟩
  have B1 : Blk w1 g1 [.slice a n c, .bool ok] 91 := by rw [hw1, hg1]; exact B1
  rw [← hw1] at k1
  have k2 := Ex.new w1 (.cells #[.slice none 0 0, .bool false] 91)
  have B2 := Blk.new w1 [.slice none 0 0, .bool false] 91
  obtain ⟨w2, hw2⟩ : ∃ w2, w2 = w1.alloc (.cells #[.slice none 0 0, .bool false] 91) := ⟨_, rfl⟩
  have hz1 : w1.heap.size = w.heap.size + 1 := by rw [hw1]; simp
  obtain ⟨g2, hg2⟩ : ∃ g2, g2 = w.heap.size + 1 := ⟨_, rfl⟩
  have B2 : Blk w2 g2 [.slice none 0 0, .bool false] 91 := by rw [hw2, hg2, ← hz1]; exact B2
  rw [← hw2] at k2
  have hgg : g1 ≠ g2 := by omega
  have hgw : w.heap.size ≤ g2 := by omega
  replace B1 := B1.nx k2
  have kk := k1.nx k2
  have H2 := h.nx kk
  have HW1 := Lib.hid hw1
  have HG1 := Lib.hid hg1
  have HW2 := Lib.hid hw2
  have HG2 := Lib.hid hg2
  have HF := Lib.hid hf
  have HS := Lib.hid h
  clear hw1 hg1 hw2 hg2 k1 k2 h hf hlen hz1
  have p0 := B1.cell 0 _ rfl
  have p1 := B1.cell 1 _ rfl
  have q0 := B2.cell 0 _ rfl
  have q1 := B2.cell 1 _ rfl
  have z0 := B2.free 0
  have z1 := B2.free 1
  have hgg1 : ¬ g1 = g2 := hgg
  go_enter Tryd.func56, Tryd.ntmps56
  go_upto_region 1 with fail
  rw [← HG2.out, ← HG1.out, ← HW1.out, ← HW2.out]
  go_wp2_with fail
  (with_reducible refine (str_pN _ _ _ _ lim _ H2 hn hc hm (by omega)).mono ?_)
  rintro e w3 ⟨rfl, rfl⟩
  obtain ⟨⟨N, K, E⟩, hT⟩ : ∃ T, T = strN R lim := ⟨_, rfl⟩
  rw [← hT] at hk ⊢
  have HT := Lib.hid hT
  simp only at hk ⊢
  clear hT
  have hkI : (K : Int) ≤ (n : Int) := by omega
  have K0 : (0 : Int) ≤ (K : Int) := by omega
  have hkc : (K : Int) ≤ (c : Int) := by omega
  rcases HF.out with ⟨rfl, rfl⟩ | ⟨x, o, rfl⟩
  · obtain rfl : n = 0 := by omega
    obtain rfl : K = 0 := by omega
    cases ok with
    | false =>
      have HB : Hid ((false && (E == 0)) = false) := Lib.hid (by simp [*])
      go_wp2_with fail
      refine wp_region_held_drew (S := Chg (· ≠ g2) w2) (by kernel_rfl) ((Chg.refl _ w2).drew) (fun hHeld => ?_)
      refine wpAnyH_take (i := 0) (oi := { dst := some 17, op := Op.move (Operand.tmp 6), type := 9, pos := "wire.go:82", after := #[], guard := none }) (v := ?_) rfl (by kernel_rfl) (by kernel_rfl) (by kernel_rfl) (fun _ _ _ h => h) (Or.inl ⟨by rfl, ?hyr1x0q1⟩) (by assumption) ?restr1x0q1
      case hyr1x0q1 => intro wq hSw; (go_simp); (try with_reducible rfl)
      try simp only [Act.put, List.setIfInBounds_toArray, List.set_cons_zero, List.set_cons_succ]
      refine wpAnyH_take (i := 1) (oi := { dst := some 18, op := Op.fieldAddr 91 (Operand.tmp 2) 0, type := 0, pos := "wire.go:82", after := #[], guard := none }) (v := ?_) rfl (by kernel_rfl) (by kernel_rfl) (by kernel_rfl) (fun _ _ _ h => h) (Or.inl ⟨by rfl, ?hyr1x1q4⟩) (by assumption) ?restr1x1q4
      case hyr1x1q4 => intro wq hSw; (go_simp); (try with_reducible rfl)
      try simp only [Act.put, List.setIfInBounds_toArray, List.set_cons_zero, List.set_cons_succ]
      refine wpAnyH_take (i := 2) (oi := { dst := some 19, op := Op.load 23 (Operand.tmp 18), type := 23, pos := "wire.go:82", after := #[{ on := 1, ground := Ground.data }], guard := none }) (v := ?_) rfl (by kernel_rfl) (by kernel_rfl) (by kernel_rfl) (fun _ _ _ h => h) (Or.inl ⟨by rfl, ?hyr1x2q7⟩) (by assumption) ?restr1x2q7
      case hyr1x2q7 => intro wq hSw; (have cq := Chg.cellv hSw p0 hgg; go_simp); (try with_reducible rfl)
      try simp only [Act.put, List.setIfInBounds_toArray, List.set_cons_zero, List.set_cons_succ]
      refine wpAnyH_take (i := 3) (oi := { dst := some 20, op := Op.move (Operand.tmp 7), type := 3, pos := "wire.go:82", after := #[], guard := none }) (v := ?_) rfl (by kernel_rfl) (by kernel_rfl) (by kernel_rfl) (fun _ _ _ h => h) (Or.inl ⟨by rfl, ?hyr1x3q10⟩) (by assumption) ?restr1x3q10
      case hyr1x3q10 => intro wq hSw; (go_simp); (try with_reducible rfl)
      try simp only [Act.put, List.setIfInBounds_toArray, List.set_cons_zero, List.set_cons_succ]
      refine wpAnyH_take (i := 4) (oi := { dst := some 21, op := Op.slice 23 (Operand.tmp 19) (some (Operand.tmp 20)) none none, type := 23, pos := "wire.go:82", after := #[{ on := 2, ground := Ground.data }, { on := 3, ground := Ground.data }], guard := none }) (v := ?_) rfl (by kernel_rfl) (by kernel_rfl) (by kernel_rfl) (fun _ _ _ h => h) (Or.inl ⟨by rfl, ?hyr1x4q13⟩) (by assumption) ?restr1x4q13
      case hyr1x4q13 => intro wq hSw; (go_simp); (try with_reducible rfl)
      try simp only [Act.put, List.setIfInBounds_toArray, List.set_cons_zero, List.set_cons_succ]
      refine wpAnyH_take (i := 5) (oi := { dst := some 22, op := Op.fieldAddr 91 (Operand.tmp 2) 1, type := 0, pos := "wire.go:82", after := #[], guard := none }) (v := ?_) rfl (by kernel_rfl) (by kernel_rfl) (by kernel_rfl) (fun _ _ _ h => h) (Or.inl ⟨by rfl, ?hyr1x5q16⟩) (by assumption) ?restr1x5q16
      case hyr1x5q16 => intro wq hSw; (go_simp); (try with_reducible rfl)
      try simp only [Act.put, List.setIfInBounds_toArray, List.set_cons_zero, List.set_cons_succ]
      refine wpAnyH_take (i := 6) (oi := { dst := some 23, op := Op.load 4 (Operand.tmp 22), type := 4, pos := "wire.go:82", after := #[{ on := 5, ground := Ground.data }], guard := none }) (v := ?_) rfl (by kernel_rfl) (by kernel_rfl) (by kernel_rfl) (fun _ _ _ h => h) (Or.inl ⟨by rfl, ?hyr1x6q19⟩) (by assumption) ?restr1x6q19
      case hyr1x6q19 => intro wq hSw; (have cq := Chg.cellv hSw p1 hgg; go_simp); (try with_reducible rfl)
      try simp only [Act.put, List.setIfInBounds_toArray, List.set_cons_zero, List.set_cons_succ]
      refine wpAnyH_take (i := 7) (oi := { dst := some 24, op := Op.move (Operand.tmp 23), type := 4, pos := "wire.go:82", after := #[{ on := 6, ground := Ground.data }], guard := none }) (v := ?_) rfl (by kernel_rfl) (by kernel_rfl) (by kernel_rfl) (fun _ _ _ h => h) (Or.inl ⟨by rfl, ?hyr1x7q22⟩) (by assumption) ?restr1x7q22
      case hyr1x7q22 => intro wq hSw; (go_simp); (try with_reducible rfl)
      try simp only [Act.put, List.setIfInBounds_toArray, List.set_cons_zero, List.set_cons_succ]
      refine wpAnyH_take (i := 8) (oi := { dst := some 25, op := Op.move (Operand.tmp 8), type := 33, pos := "wire.go:82", after := #[{ on := 7, ground := Ground.guard }, { on := 12, ground := Ground.gcOnly Departure.lateStores }], guard := some (7, true) }) (v := undef) rfl (by kernel_rfl) (by kernel_rfl) (by kernel_rfl) (fun _ _ _ h => h) (Or.inr ⟨by rfl, rfl⟩) (by assumption) ?_
      try simp only [Act.put, List.setIfInBounds_toArray, List.set_cons_zero, List.set_cons_succ]
      refine wpAnyH_take (i := 9) (oi := { dst := some 26, op := Op.binOp BinOp.eql 33 (Operand.tmp 25) (Operand.const (Value.int IntKind.i64 0)) 33, type := 4, pos := "wire.go:82", after := #[{ on := 8, ground := Ground.data }, { on := 7, ground := Ground.guard }, { on := 12, ground := Ground.gcOnly Departure.lateStores }], guard := some (7, true) }) (v := undef) rfl (by kernel_rfl) (by kernel_rfl) (by kernel_rfl) (fun _ _ _ h => h) (Or.inr ⟨by rfl, rfl⟩) (by assumption) ?_
      try simp only [Act.put, List.setIfInBounds_toArray, List.set_cons_zero, List.set_cons_succ]
      refine wpAnyH_take (i := 10) (oi := { dst := some 27, op := Op.pick (Operand.tmp 24) (Operand.tmp 26) (Operand.const (Value.bool false)), type := 4, pos := "wire.go:82", after := #[{ on := 7, ground := Ground.data }, { on := 9, ground := Ground.data }, { on := 12, ground := Ground.gcOnly Departure.lateStores }], guard := none }) (v := ?_) rfl (by kernel_rfl) (by kernel_rfl) (by kernel_rfl) (fun _ _ _ h => h) (Or.inl ⟨by rfl, ?hyr1x10q29⟩) (by assumption) ?restr1x10q29
      case hyr1x10q29 => intro wq hSw; (go_simp); (try with_reducible rfl)
      try simp only [Act.put, List.setIfInBounds_toArray, List.set_cons_zero, List.set_cons_succ]
      refine wpAnyH_take (i := 11) (oi := { dst := some 28, op := Op.build 91 #[(0, Operand.tmp 21), (1, Operand.tmp 27)], type := 91, pos := "wire.go:82", after := #[{ on := 4, ground := Ground.data }, { on := 10, ground := Ground.data }, { on := 12, ground := Ground.gcOnly Departure.lateStores }], guard := none }) (v := ?_) rfl (by kernel_rfl) (by kernel_rfl) (by kernel_rfl) (fun _ _ _ h => h) (Or.inl ⟨by rfl, ?hyr1x11q32⟩) (by assumption) ?restr1x11q32
      case hyr1x11q32 => intro wq hSw; (go_simp); (try with_reducible rfl)
      try simp only [Act.put, List.setIfInBounds_toArray, List.set_cons_zero, List.set_cons_succ]
      refine wpAnyH_take (i := 12) (oi := { dst := some 4, op := Op.assign (Operand.tmp 17), type := 9, pos := "wire.go:82", after := #[{ on := 0, ground := Ground.data }, { on := 7, ground := Ground.chain }, { on := 0, ground := Ground.phase }, { on := 1, ground := Ground.textOnly Departure.lateStores }, { on := 2, ground := Ground.textOnly Departure.lateStores }, { on := 3, ground := Ground.textOnly Departure.lateStores }, { on := 4, ground := Ground.textOnly Departure.lateStoresUnsure }, { on := 5, ground := Ground.textOnly Departure.lateStores }, { on := 6, ground := Ground.textOnly Departure.lateStores }, { on := 7, ground := Ground.textOnly Departure.lateStores }, { on := 8, ground := Ground.textOnly Departure.lateStores }, { on := 9, ground := Ground.textOnly Departure.lateStores }, { on := 10, ground := Ground.textOnly Departure.lateStores }, { on := 11, ground := Ground.textOnly Departure.lateStores }], guard := none }) (v := ?_) rfl (by kernel_rfl) (by kernel_rfl) (by kernel_rfl) (fun _ _ _ h => h) (Or.inl ⟨by rfl, ?hyr1x12q35⟩) (by assumption) ?restr1x12q35
      case hyr1x12q35 => intro wq hSw; (go_simp); (try with_reducible rfl)
      try simp only [Act.put, List.setIfInBounds_toArray, List.set_cons_zero, List.set_cons_succ]
      refine wpAnyH_ready (rs := [13]) (by kernel_rfl) (by simp) ?_
      refine AllReadyH.cons (o := { dst := none, op := Op.store 91 (Operand.tmp 5) (Operand.tmp 28), type := 0, pos := "wire.go:82", after := #[{ on := 11, ground := Ground.data }, { on := 12, ground := Ground.chain }, { on := 0, ground := Ground.phase }, { on := 1, ground := Ground.phase }, { on := 2, ground := Ground.phase }, { on := 3, ground := Ground.phase }, { on := 4, ground := Ground.phase }, { on := 5, ground := Ground.phase }, { on := 6, ground := Ground.phase }, { on := 7, ground := Ground.phase }, { on := 8, ground := Ground.phase }, { on := 9, ground := Ground.phase }, { on := 10, ground := Ground.phase }, { on := 11, ground := Ground.phase }, { on := 12, ground := Ground.phase }], guard := none }) rfl (fun K hK => ?_) AllReadyH.nil
      go_simp
      refine hK.out _ _ ((Chg.setCell (Chg.setCell hHeld _ (fun x hx => hx)) _ (fun x hx => hx))) (fun hHeld => ?_)
      clear hK K
      try simp only [Act.put, List.setIfInBounds_toArray, List.set_cons_zero, List.set_cons_succ]
      refine wpAnyH_done (by kernel_rfl) ?_ _
      go_wp2_with fail
      refine bodyPost_ret (v := .tuple #[.string N, .agg #[.slice none (0) (0), .bool false]]) (by simp [results, Tryd.results56, go_sem, *]) rfl ?_
      rw [← HT.out]
      simp only []
      rw [HB.out]
      have k9 := ((kk.setNew (p := ⟨g2, 0, none⟩) (.slice none (0) (0)) hgw).setNew (p := ⟨g2, 1, none⟩) (.bool false) hgw).drew
      exact rd_done (by rw [List.drop_zero]; exact HS.out.nx k9) (by omega) (by omega) (.inl ⟨rfl, rfl⟩) (fun x' o' hx' => by cases hx' <;> exact ⟨_, rfl⟩) k9
    | true =>
      by_cases hE : E = 0
      · subst hE
        have HB : Hid ((true && ((0 : Nat) == 0)) = true) := Lib.hid (by simp [*])
        go_wp2_with fail
        refine wp_region_held_drew (S := Chg (· ≠ g2) w2) (by kernel_rfl) ((Chg.refl _ w2).drew) (fun hHeld => ?_)
        refine wpAnyH_take (i := 0) (oi := { dst := some 17, op := Op.move (Operand.tmp 6), type := 9, pos := "wire.go:82", after := #[], guard := none }) (v := ?_) rfl (by kernel_rfl) (by kernel_rfl) (by kernel_rfl) (fun _ _ _ h => h) (Or.inl ⟨by rfl, ?hyr2x0q1⟩) (by assumption) ?restr2x0q1
        case hyr2x0q1 => intro wq hSw; (go_simp); (try with_reducible rfl)
        try simp only [Act.put, List.setIfInBounds_toArray, List.set_cons_zero, List.set_cons_succ]
        refine wpAnyH_take (i := 1) (oi := { dst := some 18, op := Op.fieldAddr 91 (Operand.tmp 2) 0, type := 0, pos := "wire.go:82", after := #[], guard := none }) (v := ?_) rfl (by kernel_rfl) (by kernel_rfl) (by kernel_rfl) (fun _ _ _ h => h) (Or.inl ⟨by rfl, ?hyr2x1q4⟩) (by assumption) ?restr2x1q4
        case hyr2x1q4 => intro wq hSw; (go_simp); (try with_reducible rfl)
        try simp only [Act.put, List.setIfInBounds_toArray, List.set_cons_zero, List.set_cons_succ]
        refine wpAnyH_take (i := 2) (oi := { dst := some 19, op := Op.load 23 (Operand.tmp 18), type := 23, pos := "wire.go:82", after := #[{ on := 1, ground := Ground.data }], guard := none }) (v := ?_) rfl (by kernel_rfl) (by kernel_rfl) (by kernel_rfl) (fun _ _ _ h => h) (Or.inl ⟨by rfl, ?hyr2x2q7⟩) (by assumption) ?restr2x2q7
        case hyr2x2q7 => intro wq hSw; (have cq := Chg.cellv hSw p0 hgg; go_simp); (try with_reducible rfl)
        try simp only [Act.put, List.setIfInBounds_toArray, List.set_cons_zero, List.set_cons_succ]
        refine wpAnyH_take (i := 3) (oi := { dst := some 20, op := Op.move (Operand.tmp 7), type := 3, pos := "wire.go:82", after := #[], guard := none }) (v := ?_) rfl (by kernel_rfl) (by kernel_rfl) (by kernel_rfl) (fun _ _ _ h => h) (Or.inl ⟨by rfl, ?hyr2x3q10⟩) (by assumption) ?restr2x3q10
        case hyr2x3q10 => intro wq hSw; (go_simp); (try with_reducible rfl)
        try simp only [Act.put, List.setIfInBounds_toArray, List.set_cons_zero, List.set_cons_succ]
        refine wpAnyH_take (i := 4) (oi := { dst := some 21, op := Op.slice 23 (Operand.tmp 19) (some (Operand.tmp 20)) none none, type := 23, pos := "wire.go:82", after := #[{ on := 2, ground := Ground.data }, { on := 3, ground := Ground.data }], guard := none }) (v := ?_) rfl (by kernel_rfl) (by kernel_rfl) (by kernel_rfl) (fun _ _ _ h => h) (Or.inl ⟨by rfl, ?hyr2x4q13⟩) (by assumption) ?restr2x4q13
        case hyr2x4q13 => intro wq hSw; (go_simp); (try with_reducible rfl)
        try simp only [Act.put, List.setIfInBounds_toArray, List.set_cons_zero, List.set_cons_succ]
        refine wpAnyH_take (i := 5) (oi := { dst := some 22, op := Op.fieldAddr 91 (Operand.tmp 2) 1, type := 0, pos := "wire.go:82", after := #[], guard := none }) (v := ?_) rfl (by kernel_rfl) (by kernel_rfl) (by kernel_rfl) (fun _ _ _ h => h) (Or.inl ⟨by rfl, ?hyr2x5q16⟩) (by assumption) ?restr2x5q16
        case hyr2x5q16 => intro wq hSw; (go_simp); (try with_reducible rfl)
        try simp only [Act.put, List.setIfInBounds_toArray, List.set_cons_zero, List.set_cons_succ]
        refine wpAnyH_take (i := 6) (oi := { dst := some 23, op := Op.load 4 (Operand.tmp 22), type := 4, pos := "wire.go:82", after := #[{ on := 5, ground := Ground.data }], guard := none }) (v := ?_) rfl (by kernel_rfl) (by kernel_rfl) (by kernel_rfl) (fun _ _ _ h => h) (Or.inl ⟨by rfl, ?hyr2x6q19⟩) (by assumption) ?restr2x6q19
        case hyr2x6q19 => intro wq hSw; (have cq := Chg.cellv hSw p1 hgg; go_simp); (try with_reducible rfl)
        try simp only [Act.put, List.setIfInBounds_toArray, List.set_cons_zero, List.set_cons_succ]
        refine wpAnyH_take (i := 7) (oi := { dst := some 24, op := Op.move (Operand.tmp 23), type := 4, pos := "wire.go:82", after := #[{ on := 6, ground := Ground.data }], guard := none }) (v := ?_) rfl (by kernel_rfl) (by kernel_rfl) (by kernel_rfl) (fun _ _ _ h => h) (Or.inl ⟨by rfl, ?hyr2x7q22⟩) (by assumption) ?restr2x7q22
        case hyr2x7q22 => intro wq hSw; (go_simp); (try with_reducible rfl)
        try simp only [Act.put, List.setIfInBounds_toArray, List.set_cons_zero, List.set_cons_succ]
        refine wpAnyH_take (i := 8) (oi := { dst := some 25, op := Op.move (Operand.tmp 8), type := 33, pos := "wire.go:82", after := #[{ on := 7, ground := Ground.guard }, { on := 12, ground := Ground.gcOnly Departure.lateStores }], guard := some (7, true) }) (v := ?_) rfl (by kernel_rfl) (by kernel_rfl) (by kernel_rfl) (fun _ _ _ h => h) (Or.inl ⟨by rfl, ?hyr2x8q25⟩) (by assumption) ?restr2x8q25
        case hyr2x8q25 => intro wq hSw; (go_simp); (try with_reducible rfl)
        try simp only [Act.put, List.setIfInBounds_toArray, List.set_cons_zero, List.set_cons_succ]
        refine wpAnyH_take (i := 9) (oi := { dst := some 26, op := Op.binOp BinOp.eql 33 (Operand.tmp 25) (Operand.const (Value.int IntKind.i64 0)) 33, type := 4, pos := "wire.go:82", after := #[{ on := 8, ground := Ground.data }, { on := 7, ground := Ground.guard }, { on := 12, ground := Ground.gcOnly Departure.lateStores }], guard := some (7, true) }) (v := ?_) rfl (by kernel_rfl) (by kernel_rfl) (by kernel_rfl) (fun _ _ _ h => h) (Or.inl ⟨by rfl, ?hyr2x9q28⟩) (by assumption) ?restr2x9q28
        case hyr2x9q28 => intro wq hSw; (go_simp); (try with_reducible rfl)
        try simp only [Act.put, List.setIfInBounds_toArray, List.set_cons_zero, List.set_cons_succ]
        refine wpAnyH_take (i := 10) (oi := { dst := some 27, op := Op.pick (Operand.tmp 24) (Operand.tmp 26) (Operand.const (Value.bool false)), type := 4, pos := "wire.go:82", after := #[{ on := 7, ground := Ground.data }, { on := 9, ground := Ground.data }, { on := 12, ground := Ground.gcOnly Departure.lateStores }], guard := none }) (v := ?_) rfl (by kernel_rfl) (by kernel_rfl) (by kernel_rfl) (fun _ _ _ h => h) (Or.inl ⟨by rfl, ?hyr2x10q31⟩) (by assumption) ?restr2x10q31
        case hyr2x10q31 => intro wq hSw; (go_simp); (try with_reducible rfl)
        try simp only [Act.put, List.setIfInBounds_toArray, List.set_cons_zero, List.set_cons_succ]
        refine wpAnyH_take (i := 11) (oi := { dst := some 28, op := Op.build 91 #[(0, Operand.tmp 21), (1, Operand.tmp 27)], type := 91, pos := "wire.go:82", after := #[{ on := 4, ground := Ground.data }, { on := 10, ground := Ground.data }, { on := 12, ground := Ground.gcOnly Departure.lateStores }], guard := none }) (v := ?_) rfl (by kernel_rfl) (by kernel_rfl) (by kernel_rfl) (fun _ _ _ h => h) (Or.inl ⟨by rfl, ?hyr2x11q34⟩) (by assumption) ?restr2x11q34
        case hyr2x11q34 => intro wq hSw; (go_simp); (try with_reducible rfl)
        try simp only [Act.put, List.setIfInBounds_toArray, List.set_cons_zero, List.set_cons_succ]
        refine wpAnyH_take (i := 12) (oi := { dst := some 4, op := Op.assign (Operand.tmp 17), type := 9, pos := "wire.go:82", after := #[{ on := 0, ground := Ground.data }, { on := 7, ground := Ground.chain }, { on := 0, ground := Ground.phase }, { on := 1, ground := Ground.textOnly Departure.lateStores }, { on := 2, ground := Ground.textOnly Departure.lateStores }, { on := 3, ground := Ground.textOnly Departure.lateStores }, { on := 4, ground := Ground.textOnly Departure.lateStoresUnsure }, { on := 5, ground := Ground.textOnly Departure.lateStores }, { on := 6, ground := Ground.textOnly Departure.lateStores }, { on := 7, ground := Ground.textOnly Departure.lateStores }, { on := 8, ground := Ground.textOnly Departure.lateStores }, { on := 9, ground := Ground.textOnly Departure.lateStores }, { on := 10, ground := Ground.textOnly Departure.lateStores }, { on := 11, ground := Ground.textOnly Departure.lateStores }], guard := none }) (v := ?_) rfl (by kernel_rfl) (by kernel_rfl) (by kernel_rfl) (fun _ _ _ h => h) (Or.inl ⟨by rfl, ?hyr2x12q37⟩) (by assumption) ?restr2x12q37
        case hyr2x12q37 => intro wq hSw; (go_simp); (try with_reducible rfl)
        try simp only [Act.put, List.setIfInBounds_toArray, List.set_cons_zero, List.set_cons_succ]
        refine wpAnyH_ready (rs := [13]) (by kernel_rfl) (by simp) ?_
        refine AllReadyH.cons (o := { dst := none, op := Op.store 91 (Operand.tmp 5) (Operand.tmp 28), type := 0, pos := "wire.go:82", after := #[{ on := 11, ground := Ground.data }, { on := 12, ground := Ground.chain }, { on := 0, ground := Ground.phase }, { on := 1, ground := Ground.phase }, { on := 2, ground := Ground.phase }, { on := 3, ground := Ground.phase }, { on := 4, ground := Ground.phase }, { on := 5, ground := Ground.phase }, { on := 6, ground := Ground.phase }, { on := 7, ground := Ground.phase }, { on := 8, ground := Ground.phase }, { on := 9, ground := Ground.phase }, { on := 10, ground := Ground.phase }, { on := 11, ground := Ground.phase }, { on := 12, ground := Ground.phase }], guard := none }) rfl (fun K hK => ?_) AllReadyH.nil
        go_simp
        refine hK.out _ _ ((Chg.setCell (Chg.setCell hHeld _ (fun x hx => hx)) _ (fun x hx => hx))) (fun hHeld => ?_)
        clear hK K
        try simp only [Act.put, List.setIfInBounds_toArray, List.set_cons_zero, List.set_cons_succ]
        refine wpAnyH_done (by kernel_rfl) ?_ _
        go_wp2_with fail
        refine bodyPost_ret (v := .tuple #[.string N, .agg #[.slice none (0) (0), .bool true]]) (by simp [results, Tryd.results56, go_sem, *]) rfl ?_
        rw [← HT.out]
        simp only []
        rw [HB.out]
        have k9 := ((kk.setNew (p := ⟨g2, 0, none⟩) (.slice none (0) (0)) hgw).setNew (p := ⟨g2, 1, none⟩) (.bool true) hgw).drew
        exact rd_done (by rw [List.drop_zero]; exact HS.out.nx k9) (by omega) (by omega) (.inl ⟨rfl, rfl⟩) (fun x' o' hx' => by cases hx' <;> exact ⟨_, rfl⟩) k9
      · have hEI : ((E : Int) == 0) = false := beq_eq_false_iff_ne.2 (by omega)
        have HB : Hid ((true && (E == 0)) = false) := Lib.hid (by simp [*])
        go_wp2_with fail
        refine wp_region_held_drew (S := Chg (· ≠ g2) w2) (by kernel_rfl) ((Chg.refl _ w2).drew) (fun hHeld => ?_)
        refine wpAnyH_take (i := 0) (oi := { dst := some 17, op := Op.move (Operand.tmp 6), type := 9, pos := "wire.go:82", after := #[], guard := none }) (v := ?_) rfl (by kernel_rfl) (by kernel_rfl) (by kernel_rfl) (fun _ _ _ h => h) (Or.inl ⟨by rfl, ?hyr3x0q1⟩) (by assumption) ?restr3x0q1
        case hyr3x0q1 => intro wq hSw; (go_simp); (try with_reducible rfl)
        try simp only [Act.put, List.setIfInBounds_toArray, List.set_cons_zero, List.set_cons_succ]
        refine wpAnyH_take (i := 1) (oi := { dst := some 18, op := Op.fieldAddr 91 (Operand.tmp 2) 0, type := 0, pos := "wire.go:82", after := #[], guard := none }) (v := ?_) rfl (by kernel_rfl) (by kernel_rfl) (by kernel_rfl) (fun _ _ _ h => h) (Or.inl ⟨by rfl, ?hyr3x1q4⟩) (by assumption) ?restr3x1q4
        case hyr3x1q4 => intro wq hSw; (go_simp); (try with_reducible rfl)
        try simp only [Act.put, List.setIfInBounds_toArray, List.set_cons_zero, List.set_cons_succ]
        refine wpAnyH_take (i := 2) (oi := { dst := some 19, op := Op.load 23 (Operand.tmp 18), type := 23, pos := "wire.go:82", after := #[{ on := 1, ground := Ground.data }], guard := none }) (v := ?_) rfl (by kernel_rfl) (by kernel_rfl) (by kernel_rfl) (fun _ _ _ h => h) (Or.inl ⟨by rfl, ?hyr3x2q7⟩) (by assumption) ?restr3x2q7
        case hyr3x2q7 => intro wq hSw; (have cq := Chg.cellv hSw p0 hgg; go_simp); (try with_reducible rfl)
        try simp only [Act.put, List.setIfInBounds_toArray, List.set_cons_zero, List.set_cons_succ]
        refine wpAnyH_take (i := 3) (oi := { dst := some 20, op := Op.move (Operand.tmp 7), type := 3, pos := "wire.go:82", after := #[], guard := none }) (v := ?_) rfl (by kernel_rfl) (by kernel_rfl) (by kernel_rfl) (fun _ _ _ h => h) (Or.inl ⟨by rfl, ?hyr3x3q10⟩) (by assumption) ?restr3x3q10
        case hyr3x3q10 => intro wq hSw; (go_simp); (try with_reducible rfl)
        try simp only [Act.put, List.setIfInBounds_toArray, List.set_cons_zero, List.set_cons_succ]
        refine wpAnyH_take (i := 4) (oi := { dst := some 21, op := Op.slice 23 (Operand.tmp 19) (some (Operand.tmp 20)) none none, type := 23, pos := "wire.go:82", after := #[{ on := 2, ground := Ground.data }, { on := 3, ground := Ground.data }], guard := none }) (v := ?_) rfl (by kernel_rfl) (by kernel_rfl) (by kernel_rfl) (fun _ _ _ h => h) (Or.inl ⟨by rfl, ?hyr3x4q13⟩) (by assumption) ?restr3x4q13
        case hyr3x4q13 => intro wq hSw; (go_simp); (try with_reducible rfl)
        try simp only [Act.put, List.setIfInBounds_toArray, List.set_cons_zero, List.set_cons_succ]
        refine wpAnyH_take (i := 5) (oi := { dst := some 22, op := Op.fieldAddr 91 (Operand.tmp 2) 1, type := 0, pos := "wire.go:82", after := #[], guard := none }) (v := ?_) rfl (by kernel_rfl) (by kernel_rfl) (by kernel_rfl) (fun _ _ _ h => h) (Or.inl ⟨by rfl, ?hyr3x5q16⟩) (by assumption) ?restr3x5q16
        case hyr3x5q16 => intro wq hSw; (go_simp); (try with_reducible rfl)
        try simp only [Act.put, List.setIfInBounds_toArray, List.set_cons_zero, List.set_cons_succ]
        refine wpAnyH_take (i := 6) (oi := { dst := some 23, op := Op.load 4 (Operand.tmp 22), type := 4, pos := "wire.go:82", after := #[{ on := 5, ground := Ground.data }], guard := none }) (v := ?_) rfl (by kernel_rfl) (by kernel_rfl) (by kernel_rfl) (fun _ _ _ h => h) (Or.inl ⟨by rfl, ?hyr3x6q19⟩) (by assumption) ?restr3x6q19
        case hyr3x6q19 => intro wq hSw; (have cq := Chg.cellv hSw p1 hgg; go_simp); (try with_reducible rfl)
        try simp only [Act.put, List.setIfInBounds_toArray, List.set_cons_zero, List.set_cons_succ]
        refine wpAnyH_take (i := 7) (oi := { dst := some 24, op := Op.move (Operand.tmp 23), type := 4, pos := "wire.go:82", after := #[{ on := 6, ground := Ground.data }], guard := none }) (v := ?_) rfl (by kernel_rfl) (by kernel_rfl) (by kernel_rfl) (fun _ _ _ h => h) (Or.inl ⟨by rfl, ?hyr3x7q22⟩) (by assumption) ?restr3x7q22
        case hyr3x7q22 => intro wq hSw; (go_simp); (try with_reducible rfl)
        try simp only [Act.put, List.setIfInBounds_toArray, List.set_cons_zero, List.set_cons_succ]
        refine wpAnyH_take (i := 8) (oi := { dst := some 25, op := Op.move (Operand.tmp 8), type := 33, pos := "wire.go:82", after := #[{ on := 7, ground := Ground.guard }, { on := 12, ground := Ground.gcOnly Departure.lateStores }], guard := some (7, true) }) (v := ?_) rfl (by kernel_rfl) (by kernel_rfl) (by kernel_rfl) (fun _ _ _ h => h) (Or.inl ⟨by rfl, ?hyr3x8q25⟩) (by assumption) ?restr3x8q25
        case hyr3x8q25 => intro wq hSw; (go_simp); (try with_reducible rfl)
        try simp only [Act.put, List.setIfInBounds_toArray, List.set_cons_zero, List.set_cons_succ]
        refine wpAnyH_take (i := 9) (oi := { dst := some 26, op := Op.binOp BinOp.eql 33 (Operand.tmp 25) (Operand.const (Value.int IntKind.i64 0)) 33, type := 4, pos := "wire.go:82", after := #[{ on := 8, ground := Ground.data }, { on := 7, ground := Ground.guard }, { on := 12, ground := Ground.gcOnly Departure.lateStores }], guard := some (7, true) }) (v := ?_) rfl (by kernel_rfl) (by kernel_rfl) (by kernel_rfl) (fun _ _ _ h => h) (Or.inl ⟨by rfl, ?hyr3x9q28⟩) (by assumption) ?restr3x9q28
        case hyr3x9q28 => intro wq hSw; (go_simp); (try with_reducible rfl)
        try simp only [Act.put, List.setIfInBounds_toArray, List.set_cons_zero, List.set_cons_succ]
        refine wpAnyH_take (i := 10) (oi := { dst := some 27, op := Op.pick (Operand.tmp 24) (Operand.tmp 26) (Operand.const (Value.bool false)), type := 4, pos := "wire.go:82", after := #[{ on := 7, ground := Ground.data }, { on := 9, ground := Ground.data }, { on := 12, ground := Ground.gcOnly Departure.lateStores }], guard := none }) (v := ?_) rfl (by kernel_rfl) (by kernel_rfl) (by kernel_rfl) (fun _ _ _ h => h) (Or.inl ⟨by rfl, ?hyr3x10q31⟩) (by assumption) ?restr3x10q31
        case hyr3x10q31 => intro wq hSw; (go_simp); (try with_reducible rfl)
        try simp only [Act.put, List.setIfInBounds_toArray, List.set_cons_zero, List.set_cons_succ]
        refine wpAnyH_take (i := 11) (oi := { dst := some 28, op := Op.build 91 #[(0, Operand.tmp 21), (1, Operand.tmp 27)], type := 91, pos := "wire.go:82", after := #[{ on := 4, ground := Ground.data }, { on := 10, ground := Ground.data }, { on := 12, ground := Ground.gcOnly Departure.lateStores }], guard := none }) (v := ?_) rfl (by kernel_rfl) (by kernel_rfl) (by kernel_rfl) (fun _ _ _ h => h) (Or.inl ⟨by rfl, ?hyr3x11q34⟩) (by assumption) ?restr3x11q34
        case hyr3x11q34 => intro wq hSw; (go_simp); (try with_reducible rfl)
        try simp only [Act.put, List.setIfInBounds_toArray, List.set_cons_zero, List.set_cons_succ]
        refine wpAnyH_take (i := 12) (oi := { dst := some 4, op := Op.assign (Operand.tmp 17), type := 9, pos := "wire.go:82", after := #[{ on := 0, ground := Ground.data }, { on := 7, ground := Ground.chain }, { on := 0, ground := Ground.phase }, { on := 1, ground := Ground.textOnly Departure.lateStores }, { on := 2, ground := Ground.textOnly Departure.lateStores }, { on := 3, ground := Ground.textOnly Departure.lateStores }, { on := 4, ground := Ground.textOnly Departure.lateStoresUnsure }, { on := 5, ground := Ground.textOnly Departure.lateStores }, { on := 6, ground := Ground.textOnly Departure.lateStores }, { on := 7, ground := Ground.textOnly Departure.lateStores }, { on := 8, ground := Ground.textOnly Departure.lateStores }, { on := 9, ground := Ground.textOnly Departure.lateStores }, { on := 10, ground := Ground.textOnly Departure.lateStores }, { on := 11, ground := Ground.textOnly Departure.lateStores }], guard := none }) (v := ?_) rfl (by kernel_rfl) (by kernel_rfl) (by kernel_rfl) (fun _ _ _ h => h) (Or.inl ⟨by rfl, ?hyr3x12q37⟩) (by assumption) ?restr3x12q37
        case hyr3x12q37 => intro wq hSw; (go_simp); (try with_reducible rfl)
        try simp only [Act.put, List.setIfInBounds_toArray, List.set_cons_zero, List.set_cons_succ]
        refine wpAnyH_ready (rs := [13]) (by kernel_rfl) (by simp) ?_
        refine AllReadyH.cons (o := { dst := none, op := Op.store 91 (Operand.tmp 5) (Operand.tmp 28), type := 0, pos := "wire.go:82", after := #[{ on := 11, ground := Ground.data }, { on := 12, ground := Ground.chain }, { on := 0, ground := Ground.phase }, { on := 1, ground := Ground.phase }, { on := 2, ground := Ground.phase }, { on := 3, ground := Ground.phase }, { on := 4, ground := Ground.phase }, { on := 5, ground := Ground.phase }, { on := 6, ground := Ground.phase }, { on := 7, ground := Ground.phase }, { on := 8, ground := Ground.phase }, { on := 9, ground := Ground.phase }, { on := 10, ground := Ground.phase }, { on := 11, ground := Ground.phase }, { on := 12, ground := Ground.phase }], guard := none }) rfl (fun K hK => ?_) AllReadyH.nil
        go_simp
        refine hK.out _ _ ((Chg.setCell (Chg.setCell hHeld _ (fun x hx => hx)) _ (fun x hx => hx))) (fun hHeld => ?_)
        clear hK K
        try simp only [Act.put, List.setIfInBounds_toArray, List.set_cons_zero, List.set_cons_succ]
        refine wpAnyH_done (by kernel_rfl) ?_ _
        go_wp2_with fail
        refine bodyPost_ret (v := .tuple #[.string N, .agg #[.slice none (0) (0), .bool false]]) (by simp [results, Tryd.results56, go_sem, *]) rfl ?_
        rw [← HT.out]
        simp only []
        rw [HB.out]
        have k9 := ((kk.setNew (p := ⟨g2, 0, none⟩) (.slice none (0) (0)) hgw).setNew (p := ⟨g2, 1, none⟩) (.bool false) hgw).drew
        exact rd_done (by rw [List.drop_zero]; exact HS.out.nx k9) (by omega) (by omega) (.inl ⟨rfl, rfl⟩) (fun x' o' hx' => by cases hx' <;> exact ⟨_, rfl⟩) k9
  · by_cases hcK : c = K
    · obtain rfl : n = K := by omega
      obtain rfl : c = n := by omega
      cases ok with
      | false =>
        have HB : Hid ((false && (E == 0)) = false) := Lib.hid (by simp [*])
        go_wp2_with fail
        refine wp_region_held_drew (S := Chg (· ≠ g2) w2) (by kernel_rfl) ((Chg.refl _ w2).drew) (fun hHeld => ?_)
        refine wpAnyH_take (i := 0) (oi := { dst := some 17, op := Op.move (Operand.tmp 6), type := 9, pos := "wire.go:82", after := #[], guard := none }) (v := ?_) rfl (by kernel_rfl) (by kernel_rfl) (by kernel_rfl) (fun _ _ _ h => h) (Or.inl ⟨by rfl, ?hyr4x0q1⟩) (by assumption) ?restr4x0q1
        case hyr4x0q1 => intro wq hSw; (go_simp); (try with_reducible rfl)
        try simp only [Act.put, List.setIfInBounds_toArray, List.set_cons_zero, List.set_cons_succ]
        refine wpAnyH_take (i := 1) (oi := { dst := some 18, op := Op.fieldAddr 91 (Operand.tmp 2) 0, type := 0, pos := "wire.go:82", after := #[], guard := none }) (v := ?_) rfl (by kernel_rfl) (by kernel_rfl) (by kernel_rfl) (fun _ _ _ h => h) (Or.inl ⟨by rfl, ?hyr4x1q4⟩) (by assumption) ?restr4x1q4
        case hyr4x1q4 => intro wq hSw; (go_simp); (try with_reducible rfl)
        try simp only [Act.put, List.setIfInBounds_toArray, List.set_cons_zero, List.set_cons_succ]
        refine wpAnyH_take (i := 2) (oi := { dst := some 19, op := Op.load 23 (Operand.tmp 18), type := 23, pos := "wire.go:82", after := #[{ on := 1, ground := Ground.data }], guard := none }) (v := ?_) rfl (by kernel_rfl) (by kernel_rfl) (by kernel_rfl) (fun _ _ _ h => h) (Or.inl ⟨by rfl, ?hyr4x2q7⟩) (by assumption) ?restr4x2q7
        case hyr4x2q7 => intro wq hSw; (have cq := Chg.cellv hSw p0 hgg; go_simp); (try with_reducible rfl)
        try simp only [Act.put, List.setIfInBounds_toArray, List.set_cons_zero, List.set_cons_succ]
        refine wpAnyH_take (i := 3) (oi := { dst := some 20, op := Op.move (Operand.tmp 7), type := 3, pos := "wire.go:82", after := #[], guard := none }) (v := ?_) rfl (by kernel_rfl) (by kernel_rfl) (by kernel_rfl) (fun _ _ _ h => h) (Or.inl ⟨by rfl, ?hyr4x3q10⟩) (by assumption) ?restr4x3q10
        case hyr4x3q10 => intro wq hSw; (go_simp); (try with_reducible rfl)
        try simp only [Act.put, List.setIfInBounds_toArray, List.set_cons_zero, List.set_cons_succ]
        refine wpAnyH_take (i := 4) (oi := { dst := some 21, op := Op.slice 23 (Operand.tmp 19) (some (Operand.tmp 20)) none none, type := 23, pos := "wire.go:82", after := #[{ on := 2, ground := Ground.data }, { on := 3, ground := Ground.data }], guard := none }) (v := ?_) rfl (by kernel_rfl) (by kernel_rfl) (by kernel_rfl) (fun _ _ _ h => h) (Or.inl ⟨by rfl, ?hyr4x4q13⟩) (by assumption) ?restr4x4q13
        case hyr4x4q13 => intro wq hSw; (go_simp); (try with_reducible rfl)
        try simp only [Act.put, List.setIfInBounds_toArray, List.set_cons_zero, List.set_cons_succ]
        refine wpAnyH_take (i := 5) (oi := { dst := some 22, op := Op.fieldAddr 91 (Operand.tmp 2) 1, type := 0, pos := "wire.go:82", after := #[], guard := none }) (v := ?_) rfl (by kernel_rfl) (by kernel_rfl) (by kernel_rfl) (fun _ _ _ h => h) (Or.inl ⟨by rfl, ?hyr4x5q16⟩) (by assumption) ?restr4x5q16
        case hyr4x5q16 => intro wq hSw; (go_simp); (try with_reducible rfl)
        try simp only [Act.put, List.setIfInBounds_toArray, List.set_cons_zero, List.set_cons_succ]
        refine wpAnyH_take (i := 6) (oi := { dst := some 23, op := Op.load 4 (Operand.tmp 22), type := 4, pos := "wire.go:82", after := #[{ on := 5, ground := Ground.data }], guard := none }) (v := ?_) rfl (by kernel_rfl) (by kernel_rfl) (by kernel_rfl) (fun _ _ _ h => h) (Or.inl ⟨by rfl, ?hyr4x6q19⟩) (by assumption) ?restr4x6q19
        case hyr4x6q19 => intro wq hSw; (have cq := Chg.cellv hSw p1 hgg; go_simp); (try with_reducible rfl)
        try simp only [Act.put, List.setIfInBounds_toArray, List.set_cons_zero, List.set_cons_succ]
        refine wpAnyH_take (i := 7) (oi := { dst := some 24, op := Op.move (Operand.tmp 23), type := 4, pos := "wire.go:82", after := #[{ on := 6, ground := Ground.data }], guard := none }) (v := ?_) rfl (by kernel_rfl) (by kernel_rfl) (by kernel_rfl) (fun _ _ _ h => h) (Or.inl ⟨by rfl, ?hyr4x7q22⟩) (by assumption) ?restr4x7q22
        case hyr4x7q22 => intro wq hSw; (go_simp); (try with_reducible rfl)
        try simp only [Act.put, List.setIfInBounds_toArray, List.set_cons_zero, List.set_cons_succ]
        refine wpAnyH_take (i := 8) (oi := { dst := some 25, op := Op.move (Operand.tmp 8), type := 33, pos := "wire.go:82", after := #[{ on := 7, ground := Ground.guard }, { on := 12, ground := Ground.gcOnly Departure.lateStores }], guard := some (7, true) }) (v := undef) rfl (by kernel_rfl) (by kernel_rfl) (by kernel_rfl) (fun _ _ _ h => h) (Or.inr ⟨by rfl, rfl⟩) (by assumption) ?_
        try simp only [Act.put, List.setIfInBounds_toArray, List.set_cons_zero, List.set_cons_succ]
        refine wpAnyH_take (i := 9) (oi := { dst := some 26, op := Op.binOp BinOp.eql 33 (Operand.tmp 25) (Operand.const (Value.int IntKind.i64 0)) 33, type := 4, pos := "wire.go:82", after := #[{ on := 8, ground := Ground.data }, { on := 7, ground := Ground.guard }, { on := 12, ground := Ground.gcOnly Departure.lateStores }], guard := some (7, true) }) (v := undef) rfl (by kernel_rfl) (by kernel_rfl) (by kernel_rfl) (fun _ _ _ h => h) (Or.inr ⟨by rfl, rfl⟩) (by assumption) ?_
        try simp only [Act.put, List.setIfInBounds_toArray, List.set_cons_zero, List.set_cons_succ]
        refine wpAnyH_take (i := 10) (oi := { dst := some 27, op := Op.pick (Operand.tmp 24) (Operand.tmp 26) (Operand.const (Value.bool false)), type := 4, pos := "wire.go:82", after := #[{ on := 7, ground := Ground.data }, { on := 9, ground := Ground.data }, { on := 12, ground := Ground.gcOnly Departure.lateStores }], guard := none }) (v := ?_) rfl (by kernel_rfl) (by kernel_rfl) (by kernel_rfl) (fun _ _ _ h => h) (Or.inl ⟨by rfl, ?hyr4x10q29⟩) (by assumption) ?restr4x10q29
        case hyr4x10q29 => intro wq hSw; (go_simp); (try with_reducible rfl)
        try simp only [Act.put, List.setIfInBounds_toArray, List.set_cons_zero, List.set_cons_succ]
        refine wpAnyH_take (i := 11) (oi := { dst := some 28, op := Op.build 91 #[(0, Operand.tmp 21), (1, Operand.tmp 27)], type := 91, pos := "wire.go:82", after := #[{ on := 4, ground := Ground.data }, { on := 10, ground := Ground.data }, { on := 12, ground := Ground.gcOnly Departure.lateStores }], guard := none }) (v := ?_) rfl (by kernel_rfl) (by kernel_rfl) (by kernel_rfl) (fun _ _ _ h => h) (Or.inl ⟨by rfl, ?hyr4x11q32⟩) (by assumption) ?restr4x11q32
        case hyr4x11q32 => intro wq hSw; (go_simp); (try with_reducible rfl)
        try simp only [Act.put, List.setIfInBounds_toArray, List.set_cons_zero, List.set_cons_succ]
        refine wpAnyH_take (i := 12) (oi := { dst := some 4, op := Op.assign (Operand.tmp 17), type := 9, pos := "wire.go:82", after := #[{ on := 0, ground := Ground.data }, { on := 7, ground := Ground.chain }, { on := 0, ground := Ground.phase }, { on := 1, ground := Ground.textOnly Departure.lateStores }, { on := 2, ground := Ground.textOnly Departure.lateStores }, { on := 3, ground := Ground.textOnly Departure.lateStores }, { on := 4, ground := Ground.textOnly Departure.lateStoresUnsure }, { on := 5, ground := Ground.textOnly Departure.lateStores }, { on := 6, ground := Ground.textOnly Departure.lateStores }, { on := 7, ground := Ground.textOnly Departure.lateStores }, { on := 8, ground := Ground.textOnly Departure.lateStores }, { on := 9, ground := Ground.textOnly Departure.lateStores }, { on := 10, ground := Ground.textOnly Departure.lateStores }, { on := 11, ground := Ground.textOnly Departure.lateStores }], guard := none }) (v := ?_) rfl (by kernel_rfl) (by kernel_rfl) (by kernel_rfl) (fun _ _ _ h => h) (Or.inl ⟨by rfl, ?hyr4x12q35⟩) (by assumption) ?restr4x12q35
        case hyr4x12q35 => intro wq hSw; (go_simp); (try with_reducible rfl)
        try simp only [Act.put, List.setIfInBounds_toArray, List.set_cons_zero, List.set_cons_succ]
        refine wpAnyH_ready (rs := [13]) (by kernel_rfl) (by simp) ?_
        refine AllReadyH.cons (o := { dst := none, op := Op.store 91 (Operand.tmp 5) (Operand.tmp 28), type := 0, pos := "wire.go:82", after := #[{ on := 11, ground := Ground.data }, { on := 12, ground := Ground.chain }, { on := 0, ground := Ground.phase }, { on := 1, ground := Ground.phase }, { on := 2, ground := Ground.phase }, { on := 3, ground := Ground.phase }, { on := 4, ground := Ground.phase }, { on := 5, ground := Ground.phase }, { on := 6, ground := Ground.phase }, { on := 7, ground := Ground.phase }, { on := 8, ground := Ground.phase }, { on := 9, ground := Ground.phase }, { on := 10, ground := Ground.phase }, { on := 11, ground := Ground.phase }, { on := 12, ground := Ground.phase }], guard := none }) rfl (fun K hK => ?_) AllReadyH.nil
        go_simp
        refine hK.out _ _ ((Chg.setCell (Chg.setCell hHeld _ (fun x hx => hx)) _ (fun x hx => hx))) (fun hHeld => ?_)
        clear hK K
        try simp only [Act.put, List.setIfInBounds_toArray, List.set_cons_zero, List.set_cons_succ]
        refine wpAnyH_done (by kernel_rfl) ?_ _
        go_wp2_with fail
        refine bodyPost_ret (v := .tuple #[.string N, .agg #[.slice (some ⟨x, o, none⟩) (0) (0), .bool false]]) (by simp [results, Tryd.results56, go_sem, *]) rfl ?_
        rw [← HT.out]
        simp only []
        rw [HB.out]
        have k9 := ((kk.setNew (p := ⟨g2, 0, none⟩) (.slice (some ⟨x, o, none⟩) (0) (0)) hgw).setNew (p := ⟨g2, 1, none⟩) (.bool false) hgw).drew
        exact rd_done (sl_end (HS.out.nx k9) (Nat.le_refl _)) (by omega) (by omega) (.inr ⟨_, _, rfl⟩) (fun x' o' hx' => by cases hx' <;> exact ⟨_, rfl⟩) k9
      | true =>
        by_cases hE : E = 0
        · subst hE
          have HB : Hid ((true && ((0 : Nat) == 0)) = true) := Lib.hid (by simp [*])
          go_wp2_with fail
          refine wp_region_held_drew (S := Chg (· ≠ g2) w2) (by kernel_rfl) ((Chg.refl _ w2).drew) (fun hHeld => ?_)
          refine wpAnyH_take (i := 0) (oi := { dst := some 17, op := Op.move (Operand.tmp 6), type := 9, pos := "wire.go:82", after := #[], guard := none }) (v := ?_) rfl (by kernel_rfl) (by kernel_rfl) (by kernel_rfl) (fun _ _ _ h => h) (Or.inl ⟨by rfl, ?hyr5x0q1⟩) (by assumption) ?restr5x0q1
          case hyr5x0q1 => intro wq hSw; (go_simp); (try with_reducible rfl)
          try simp only [Act.put, List.setIfInBounds_toArray, List.set_cons_zero, List.set_cons_succ]
          refine wpAnyH_take (i := 1) (oi := { dst := some 18, op := Op.fieldAddr 91 (Operand.tmp 2) 0, type := 0, pos := "wire.go:82", after := #[], guard := none }) (v := ?_) rfl (by kernel_rfl) (by kernel_rfl) (by kernel_rfl) (fun _ _ _ h => h) (Or.inl ⟨by rfl, ?hyr5x1q4⟩) (by assumption) ?restr5x1q4
          case hyr5x1q4 => intro wq hSw; (go_simp); (try with_reducible rfl)
          try simp only [Act.put, List.setIfInBounds_toArray, List.set_cons_zero, List.set_cons_succ]
          refine wpAnyH_take (i := 2) (oi := { dst := some 19, op := Op.load 23 (Operand.tmp 18), type := 23, pos := "wire.go:82", after := #[{ on := 1, ground := Ground.data }], guard := none }) (v := ?_) rfl (by kernel_rfl) (by kernel_rfl) (by kernel_rfl) (fun _ _ _ h => h) (Or.inl ⟨by rfl, ?hyr5x2q7⟩) (by assumption) ?restr5x2q7
          case hyr5x2q7 => intro wq hSw; (have cq := Chg.cellv hSw p0 hgg; go_simp); (try with_reducible rfl)
          try simp only [Act.put, List.setIfInBounds_toArray, List.set_cons_zero, List.set_cons_succ]
          refine wpAnyH_take (i := 3) (oi := { dst := some 20, op := Op.move (Operand.tmp 7), type := 3, pos := "wire.go:82", after := #[], guard := none }) (v := ?_) rfl (by kernel_rfl) (by kernel_rfl) (by kernel_rfl) (fun _ _ _ h => h) (Or.inl ⟨by rfl, ?hyr5x3q10⟩) (by assumption) ?restr5x3q10
          case hyr5x3q10 => intro wq hSw; (go_simp); (try with_reducible rfl)
          try simp only [Act.put, List.setIfInBounds_toArray, List.set_cons_zero, List.set_cons_succ]
          refine wpAnyH_take (i := 4) (oi := { dst := some 21, op := Op.slice 23 (Operand.tmp 19) (some (Operand.tmp 20)) none none, type := 23, pos := "wire.go:82", after := #[{ on := 2, ground := Ground.data }, { on := 3, ground := Ground.data }], guard := none }) (v := ?_) rfl (by kernel_rfl) (by kernel_rfl) (by kernel_rfl) (fun _ _ _ h => h) (Or.inl ⟨by rfl, ?hyr5x4q13⟩) (by assumption) ?restr5x4q13
          case hyr5x4q13 => intro wq hSw; (go_simp); (try with_reducible rfl)
          try simp only [Act.put, List.setIfInBounds_toArray, List.set_cons_zero, List.set_cons_succ]
          refine wpAnyH_take (i := 5) (oi := { dst := some 22, op := Op.fieldAddr 91 (Operand.tmp 2) 1, type := 0, pos := "wire.go:82", after := #[], guard := none }) (v := ?_) rfl (by kernel_rfl) (by kernel_rfl) (by kernel_rfl) (fun _ _ _ h => h) (Or.inl ⟨by rfl, ?hyr5x5q16⟩) (by assumption) ?restr5x5q16
          case hyr5x5q16 => intro wq hSw; (go_simp); (try with_reducible rfl)
          try simp only [Act.put, List.setIfInBounds_toArray, List.set_cons_zero, List.set_cons_succ]
          refine wpAnyH_take (i := 6) (oi := { dst := some 23, op := Op.load 4 (Operand.tmp 22), type := 4, pos := "wire.go:82", after := #[{ on := 5, ground := Ground.data }], guard := none }) (v := ?_) rfl (by kernel_rfl) (by kernel_rfl) (by kernel_rfl) (fun _ _ _ h => h) (Or.inl ⟨by rfl, ?hyr5x6q19⟩) (by assumption) ?restr5x6q19
          case hyr5x6q19 => intro wq hSw; (have cq := Chg.cellv hSw p1 hgg; go_simp); (try with_reducible rfl)
          try simp only [Act.put, List.setIfInBounds_toArray, List.set_cons_zero, List.set_cons_succ]
          refine wpAnyH_take (i := 7) (oi := { dst := some 24, op := Op.move (Operand.tmp 23), type := 4, pos := "wire.go:82", after := #[{ on := 6, ground := Ground.data }], guard := none }) (v := ?_) rfl (by kernel_rfl) (by kernel_rfl) (by kernel_rfl) (fun _ _ _ h => h) (Or.inl ⟨by rfl, ?hyr5x7q22⟩) (by assumption) ?restr5x7q22
          case hyr5x7q22 => intro wq hSw; (go_simp); (try with_reducible rfl)
          try simp only [Act.put, List.setIfInBounds_toArray, List.set_cons_zero, List.set_cons_succ]
          refine wpAnyH_take (i := 8) (oi := { dst := some 25, op := Op.move (Operand.tmp 8), type := 33, pos := "wire.go:82", after := #[{ on := 7, ground := Ground.guard }, { on := 12, ground := Ground.gcOnly Departure.lateStores }], guard := some (7, true) }) (v := ?_) rfl (by kernel_rfl) (by kernel_rfl) (by kernel_rfl) (fun _ _ _ h => h) (Or.inl ⟨by rfl, ?hyr5x8q25⟩) (by assumption) ?restr5x8q25
          case hyr5x8q25 => intro wq hSw; (go_simp); (try with_reducible rfl)
          try simp only [Act.put, List.setIfInBounds_toArray, List.set_cons_zero, List.set_cons_succ]
          refine wpAnyH_take (i := 9) (oi := { dst := some 26, op := Op.binOp BinOp.eql 33 (Operand.tmp 25) (Operand.const (Value.int IntKind.i64 0)) 33, type := 4, pos := "wire.go:82", after := #[{ on := 8, ground := Ground.data }, { on := 7, ground := Ground.guard }, { on := 12, ground := Ground.gcOnly Departure.lateStores }], guard := some (7, true) }) (v := ?_) rfl (by kernel_rfl) (by kernel_rfl) (by kernel_rfl) (fun _ _ _ h => h) (Or.inl ⟨by rfl, ?hyr5x9q28⟩) (by assumption) ?restr5x9q28
          case hyr5x9q28 => intro wq hSw; (go_simp); (try with_reducible rfl)
          try simp only [Act.put, List.setIfInBounds_toArray, List.set_cons_zero, List.set_cons_succ]
          refine wpAnyH_take (i := 10) (oi := { dst := some 27, op := Op.pick (Operand.tmp 24) (Operand.tmp 26) (Operand.const (Value.bool false)), type := 4, pos := "wire.go:82", after := #[{ on := 7, ground := Ground.data }, { on := 9, ground := Ground.data }, { on := 12, ground := Ground.gcOnly Departure.lateStores }], guard := none }) (v := ?_) rfl (by kernel_rfl) (by kernel_rfl) (by kernel_rfl) (fun _ _ _ h => h) (Or.inl ⟨by rfl, ?hyr5x10q31⟩) (by assumption) ?restr5x10q31
          case hyr5x10q31 => intro wq hSw; (go_simp); (try with_reducible rfl)
          try simp only [Act.put, List.setIfInBounds_toArray, List.set_cons_zero, List.set_cons_succ]
          refine wpAnyH_take (i := 11) (oi := { dst := some 28, op := Op.build 91 #[(0, Operand.tmp 21), (1, Operand.tmp 27)], type := 91, pos := "wire.go:82", after := #[{ on := 4, ground := Ground.data }, { on := 10, ground := Ground.data }, { on := 12, ground := Ground.gcOnly Departure.lateStores }], guard := none }) (v := ?_) rfl (by kernel_rfl) (by kernel_rfl) (by kernel_rfl) (fun _ _ _ h => h) (Or.inl ⟨by rfl, ?hyr5x11q34⟩) (by assumption) ?restr5x11q34
          case hyr5x11q34 => intro wq hSw; (go_simp); (try with_reducible rfl)
          try simp only [Act.put, List.setIfInBounds_toArray, List.set_cons_zero, List.set_cons_succ]
          refine wpAnyH_take (i := 12) (oi := { dst := some 4, op := Op.assign (Operand.tmp 17), type := 9, pos := "wire.go:82", after := #[{ on := 0, ground := Ground.data }, { on := 7, ground := Ground.chain }, { on := 0, ground := Ground.phase }, { on := 1, ground := Ground.textOnly Departure.lateStores }, { on := 2, ground := Ground.textOnly Departure.lateStores }, { on := 3, ground := Ground.textOnly Departure.lateStores }, { on := 4, ground := Ground.textOnly Departure.lateStoresUnsure }, { on := 5, ground := Ground.textOnly Departure.lateStores }, { on := 6, ground := Ground.textOnly Departure.lateStores }, { on := 7, ground := Ground.textOnly Departure.lateStores }, { on := 8, ground := Ground.textOnly Departure.lateStores }, { on := 9, ground := Ground.textOnly Departure.lateStores }, { on := 10, ground := Ground.textOnly Departure.lateStores }, { on := 11, ground := Ground.textOnly Departure.lateStores }], guard := none }) (v := ?_) rfl (by kernel_rfl) (by kernel_rfl) (by kernel_rfl) (fun _ _ _ h => h) (Or.inl ⟨by rfl, ?hyr5x12q37⟩) (by assumption) ?restr5x12q37
          case hyr5x12q37 => intro wq hSw; (go_simp); (try with_reducible rfl)
          try simp only [Act.put, List.setIfInBounds_toArray, List.set_cons_zero, List.set_cons_succ]
          refine wpAnyH_ready (rs := [13]) (by kernel_rfl) (by simp) ?_
          refine AllReadyH.cons (o := { dst := none, op := Op.store 91 (Operand.tmp 5) (Operand.tmp 28), type := 0, pos := "wire.go:82", after := #[{ on := 11, ground := Ground.data }, { on := 12, ground := Ground.chain }, { on := 0, ground := Ground.phase }, { on := 1, ground := Ground.phase }, { on := 2, ground := Ground.phase }, { on := 3, ground := Ground.phase }, { on := 4, ground := Ground.phase }, { on := 5, ground := Ground.phase }, { on := 6, ground := Ground.phase }, { on := 7, ground := Ground.phase }, { on := 8, ground := Ground.phase }, { on := 9, ground := Ground.phase }, { on := 10, ground := Ground.phase }, { on := 11, ground := Ground.phase }, { on := 12, ground := Ground.phase }], guard := none }) rfl (fun K hK => ?_) AllReadyH.nil
          go_simp
          refine hK.out _ _ ((Chg.setCell (Chg.setCell hHeld _ (fun x hx => hx)) _ (fun x hx => hx))) (fun hHeld => ?_)
          clear hK K
          try simp only [Act.put, List.setIfInBounds_toArray, List.set_cons_zero, List.set_cons_succ]
          refine wpAnyH_done (by kernel_rfl) ?_ _
          go_wp2_with fail
          refine bodyPost_ret (v := .tuple #[.string N, .agg #[.slice (some ⟨x, o, none⟩) (0) (0), .bool true]]) (by simp [results, Tryd.results56, go_sem, *]) rfl ?_
          rw [← HT.out]
          simp only []
          rw [HB.out]
          have k9 := ((kk.setNew (p := ⟨g2, 0, none⟩) (.slice (some ⟨x, o, none⟩) (0) (0)) hgw).setNew (p := ⟨g2, 1, none⟩) (.bool true) hgw).drew
          exact rd_done (sl_end (HS.out.nx k9) (Nat.le_refl _)) (by omega) (by omega) (.inr ⟨_, _, rfl⟩) (fun x' o' hx' => by cases hx' <;> exact ⟨_, rfl⟩) k9
        · have hEI : ((E : Int) == 0) = false := beq_eq_false_iff_ne.2 (by omega)
          have HB : Hid ((true && (E == 0)) = false) := Lib.hid (by simp [*])
          go_wp2_with fail
          refine wp_region_held_drew (S := Chg (· ≠ g2) w2) (by kernel_rfl) ((Chg.refl _ w2).drew) (fun hHeld => ?_)
          refine wpAnyH_take (i := 0) (oi := { dst := some 17, op := Op.move (Operand.tmp 6), type := 9, pos := "wire.go:82", after := #[], guard := none }) (v := ?_) rfl (by kernel_rfl) (by kernel_rfl) (by kernel_rfl) (fun _ _ _ h => h) (Or.inl ⟨by rfl, ?hyr6x0q1⟩) (by assumption) ?restr6x0q1
          case hyr6x0q1 => intro wq hSw; (go_simp); (try with_reducible rfl)
          try simp only [Act.put, List.setIfInBounds_toArray, List.set_cons_zero, List.set_cons_succ]
          refine wpAnyH_take (i := 1) (oi := { dst := some 18, op := Op.fieldAddr 91 (Operand.tmp 2) 0, type := 0, pos := "wire.go:82", after := #[], guard := none }) (v := ?_) rfl (by kernel_rfl) (by kernel_rfl) (by kernel_rfl) (fun _ _ _ h => h) (Or.inl ⟨by rfl, ?hyr6x1q4⟩) (by assumption) ?restr6x1q4
          case hyr6x1q4 => intro wq hSw; (go_simp); (try with_reducible rfl)
          try simp only [Act.put, List.setIfInBounds_toArray, List.set_cons_zero, List.set_cons_succ]
          refine wpAnyH_take (i := 2) (oi := { dst := some 19, op := Op.load 23 (Operand.tmp 18), type := 23, pos := "wire.go:82", after := #[{ on := 1, ground := Ground.data }], guard := none }) (v := ?_) rfl (by kernel_rfl) (by kernel_rfl) (by kernel_rfl) (fun _ _ _ h => h) (Or.inl ⟨by rfl, ?hyr6x2q7⟩) (by assumption) ?restr6x2q7
          case hyr6x2q7 => intro wq hSw; (have cq := Chg.cellv hSw p0 hgg; go_simp); (try with_reducible rfl)
          try simp only [Act.put, List.setIfInBounds_toArray, List.set_cons_zero, List.set_cons_succ]
          refine wpAnyH_take (i := 3) (oi := { dst := some 20, op := Op.move (Operand.tmp 7), type := 3, pos := "wire.go:82", after := #[], guard := none }) (v := ?_) rfl (by kernel_rfl) (by kernel_rfl) (by kernel_rfl) (fun _ _ _ h => h) (Or.inl ⟨by rfl, ?hyr6x3q10⟩) (by assumption) ?restr6x3q10
          case hyr6x3q10 => intro wq hSw; (go_simp); (try with_reducible rfl)
          try simp only [Act.put, List.setIfInBounds_toArray, List.set_cons_zero, List.set_cons_succ]
          refine wpAnyH_take (i := 4) (oi := { dst := some 21, op := Op.slice 23 (Operand.tmp 19) (some (Operand.tmp 20)) none none, type := 23, pos := "wire.go:82", after := #[{ on := 2, ground := Ground.data }, { on := 3, ground := Ground.data }], guard := none }) (v := ?_) rfl (by kernel_rfl) (by kernel_rfl) (by kernel_rfl) (fun _ _ _ h => h) (Or.inl ⟨by rfl, ?hyr6x4q13⟩) (by assumption) ?restr6x4q13
          case hyr6x4q13 => intro wq hSw; (go_simp); (try with_reducible rfl)
          try simp only [Act.put, List.setIfInBounds_toArray, List.set_cons_zero, List.set_cons_succ]
          refine wpAnyH_take (i := 5) (oi := { dst := some 22, op := Op.fieldAddr 91 (Operand.tmp 2) 1, type := 0, pos := "wire.go:82", after := #[], guard := none }) (v := ?_) rfl (by kernel_rfl) (by kernel_rfl) (by kernel_rfl) (fun _ _ _ h => h) (Or.inl ⟨by rfl, ?hyr6x5q16⟩) (by assumption) ?restr6x5q16
          case hyr6x5q16 => intro wq hSw; (go_simp); (try with_reducible rfl)
          try simp only [Act.put, List.setIfInBounds_toArray, List.set_cons_zero, List.set_cons_succ]
          refine wpAnyH_take (i := 6) (oi := { dst := some 23, op := Op.load 4 (Operand.tmp 22), type := 4, pos := "wire.go:82", after := #[{ on := 5, ground := Ground.data }], guard := none }) (v := ?_) rfl (by kernel_rfl) (by kernel_rfl) (by kernel_rfl) (fun _ _ _ h => h) (Or.inl ⟨by rfl, ?hyr6x6q19⟩) (by assumption) ?restr6x6q19
          case hyr6x6q19 => intro wq hSw; (have cq := Chg.cellv hSw p1 hgg; go_simp); (try with_reducible rfl)
          try simp only [Act.put, List.setIfInBounds_toArray, List.set_cons_zero, List.set_cons_succ]
          refine wpAnyH_take (i := 7) (oi := { dst := some 24, op := Op.move (Operand.tmp 23), type := 4, pos := "wire.go:82", after := #[{ on := 6, ground := Ground.data }], guard := none }) (v := ?_) rfl (by kernel_rfl) (by kernel_rfl) (by kernel_rfl) (fun _ _ _ h => h) (Or.inl ⟨by rfl, ?hyr6x7q22⟩) (by assumption) ?restr6x7q22
          case hyr6x7q22 => intro wq hSw; (go_simp); (try with_reducible rfl)
          try simp only [Act.put, List.setIfInBounds_toArray, List.set_cons_zero, List.set_cons_succ]
          refine wpAnyH_take (i := 8) (oi := { dst := some 25, op := Op.move (Operand.tmp 8), type := 33, pos := "wire.go:82", after := #[{ on := 7, ground := Ground.guard }, { on := 12, ground := Ground.gcOnly Departure.lateStores }], guard := some (7, true) }) (v := ?_) rfl (by kernel_rfl) (by kernel_rfl) (by kernel_rfl) (fun _ _ _ h => h) (Or.inl ⟨by rfl, ?hyr6x8q25⟩) (by assumption) ?restr6x8q25
          case hyr6x8q25 => intro wq hSw; (go_simp); (try with_reducible rfl)
          try simp only [Act.put, List.setIfInBounds_toArray, List.set_cons_zero, List.set_cons_succ]
          refine wpAnyH_take (i := 9) (oi := { dst := some 26, op := Op.binOp BinOp.eql 33 (Operand.tmp 25) (Operand.const (Value.int IntKind.i64 0)) 33, type := 4, pos := "wire.go:82", after := #[{ on := 8, ground := Ground.data }, { on := 7, ground := Ground.guard }, { on := 12, ground := Ground.gcOnly Departure.lateStores }], guard := some (7, true) }) (v := ?_) rfl (by kernel_rfl) (by kernel_rfl) (by kernel_rfl) (fun _ _ _ h => h) (Or.inl ⟨by rfl, ?hyr6x9q28⟩) (by assumption) ?restr6x9q28
          case hyr6x9q28 => intro wq hSw; (go_simp); (try with_reducible rfl)
          try simp only [Act.put, List.setIfInBounds_toArray, List.set_cons_zero, List.set_cons_succ]
          refine wpAnyH_take (i := 10) (oi := { dst := some 27, op := Op.pick (Operand.tmp 24) (Operand.tmp 26) (Operand.const (Value.bool false)), type := 4, pos := "wire.go:82", after := #[{ on := 7, ground := Ground.data }, { on := 9, ground := Ground.data }, { on := 12, ground := Ground.gcOnly Departure.lateStores }], guard := none }) (v := ?_) rfl (by kernel_rfl) (by kernel_rfl) (by kernel_rfl) (fun _ _ _ h => h) (Or.inl ⟨by rfl, ?hyr6x10q31⟩) (by assumption) ?restr6x10q31
          case hyr6x10q31 => intro wq hSw; (go_simp); (try with_reducible rfl)
          try simp only [Act.put, List.setIfInBounds_toArray, List.set_cons_zero, List.set_cons_succ]
          refine wpAnyH_take (i := 11) (oi := { dst := some 28, op := Op.build 91 #[(0, Operand.tmp 21), (1, Operand.tmp 27)], type := 91, pos := "wire.go:82", after := #[{ on := 4, ground := Ground.data }, { on := 10, ground := Ground.data }, { on := 12, ground := Ground.gcOnly Departure.lateStores }], guard := none }) (v := ?_) rfl (by kernel_rfl) (by kernel_rfl) (by kernel_rfl) (fun _ _ _ h => h) (Or.inl ⟨by rfl, ?hyr6x11q34⟩) (by assumption) ?restr6x11q34
          case hyr6x11q34 => intro wq hSw; (go_simp); (try with_reducible rfl)
          try simp only [Act.put, List.setIfInBounds_toArray, List.set_cons_zero, List.set_cons_succ]
          refine wpAnyH_take (i := 12) (oi := { dst := some 4, op := Op.assign (Operand.tmp 17), type := 9, pos := "wire.go:82", after := #[{ on := 0, ground := Ground.data }, { on := 7, ground := Ground.chain }, { on := 0, ground := Ground.phase }, { on := 1, ground := Ground.textOnly Departure.lateStores }, { on := 2, ground := Ground.textOnly Departure.lateStores }, { on := 3, ground := Ground.textOnly Departure.lateStores }, { on := 4, ground := Ground.textOnly Departure.lateStoresUnsure }, { on := 5, ground := Ground.textOnly Departure.lateStores }, { on := 6, ground := Ground.textOnly Departure.lateStores }, { on := 7, ground := Ground.textOnly Departure.lateStores }, { on := 8, ground := Ground.textOnly Departure.lateStores }, { on := 9, ground := Ground.textOnly Departure.lateStores }, { on := 10, ground := Ground.textOnly Departure.lateStores }, { on := 11, ground := Ground.textOnly Departure.lateStores }], guard := none }) (v := ?_) rfl (by kernel_rfl) (by kernel_rfl) (by kernel_rfl) (fun _ _ _ h => h) (Or.inl ⟨by rfl, ?hyr6x12q37⟩) (by assumption) ?restr6x12q37
          case hyr6x12q37 => intro wq hSw; (go_simp); (try with_reducible rfl)
          try simp only [Act.put, List.setIfInBounds_toArray, List.set_cons_zero, List.set_cons_succ]
          refine wpAnyH_ready (rs := [13]) (by kernel_rfl) (by simp) ?_
          refine AllReadyH.cons (o := { dst := none, op := Op.store 91 (Operand.tmp 5) (Operand.tmp 28), type := 0, pos := "wire.go:82", after := #[{ on := 11, ground := Ground.data }, { on := 12, ground := Ground.chain }, { on := 0, ground := Ground.phase }, { on := 1, ground := Ground.phase }, { on := 2, ground := Ground.phase }, { on := 3, ground := Ground.phase }, { on := 4, ground := Ground.phase }, { on := 5, ground := Ground.phase }, { on := 6, ground := Ground.phase }, { on := 7, ground := Ground.phase }, { on := 8, ground := Ground.phase }, { on := 9, ground := Ground.phase }, { on := 10, ground := Ground.phase }, { on := 11, ground := Ground.phase }, { on := 12, ground := Ground.phase }], guard := none }) rfl (fun K hK => ?_) AllReadyH.nil
          go_simp
          refine hK.out _ _ ((Chg.setCell (Chg.setCell hHeld _ (fun x hx => hx)) _ (fun x hx => hx))) (fun hHeld => ?_)
          clear hK K
          try simp only [Act.put, List.setIfInBounds_toArray, List.set_cons_zero, List.set_cons_succ]
          refine wpAnyH_done (by kernel_rfl) ?_ _
          go_wp2_with fail
          refine bodyPost_ret (v := .tuple #[.string N, .agg #[.slice (some ⟨x, o, none⟩) (0) (0), .bool false]]) (by simp [results, Tryd.results56, go_sem, *]) rfl ?_
          rw [← HT.out]
          simp only []
          rw [HB.out]
          have k9 := ((kk.setNew (p := ⟨g2, 0, none⟩) (.slice (some ⟨x, o, none⟩) (0) (0)) hgw).setNew (p := ⟨g2, 1, none⟩) (.bool false) hgw).drew
          exact rd_done (sl_end (HS.out.nx k9) (Nat.le_refl _)) (by omega) (by omega) (.inr ⟨_, _, rfl⟩) (fun x' o' hx' => by cases hx' <;> exact ⟨_, rfl⟩) k9
    · have hcK' : ¬ c = K := hcK
      cases ok with
      | false =>
        have HB : Hid ((false && (E == 0)) = false) := Lib.hid (by simp [*])
        go_wp2_with fail
        refine wp_region_held_drew (S := Chg (· ≠ g2) w2) (by kernel_rfl) ((Chg.refl _ w2).drew) (fun hHeld => ?_)
        refine wpAnyH_take (i := 0) (oi := { dst := some 17, op := Op.move (Operand.tmp 6), type := 9, pos := "wire.go:82", after := #[], guard := none }) (v := ?_) rfl (by kernel_rfl) (by kernel_rfl) (by kernel_rfl) (fun _ _ _ h => h) (Or.inl ⟨by rfl, ?hyr7x0q1⟩) (by assumption) ?restr7x0q1
        case hyr7x0q1 => intro wq hSw; (go_simp); (try with_reducible rfl)
        try simp only [Act.put, List.setIfInBounds_toArray, List.set_cons_zero, List.set_cons_succ]
        refine wpAnyH_take (i := 1) (oi := { dst := some 18, op := Op.fieldAddr 91 (Operand.tmp 2) 0, type := 0, pos := "wire.go:82", after := #[], guard := none }) (v := ?_) rfl (by kernel_rfl) (by kernel_rfl) (by kernel_rfl) (fun _ _ _ h => h) (Or.inl ⟨by rfl, ?hyr7x1q4⟩) (by assumption) ?restr7x1q4
        case hyr7x1q4 => intro wq hSw; (go_simp); (try with_reducible rfl)
        try simp only [Act.put, List.setIfInBounds_toArray, List.set_cons_zero, List.set_cons_succ]
        refine wpAnyH_take (i := 2) (oi := { dst := some 19, op := Op.load 23 (Operand.tmp 18), type := 23, pos := "wire.go:82", after := #[{ on := 1, ground := Ground.data }], guard := none }) (v := ?_) rfl (by kernel_rfl) (by kernel_rfl) (by kernel_rfl) (fun _ _ _ h => h) (Or.inl ⟨by rfl, ?hyr7x2q7⟩) (by assumption) ?restr7x2q7
        case hyr7x2q7 => intro wq hSw; (have cq := Chg.cellv hSw p0 hgg; go_simp); (try with_reducible rfl)
        try simp only [Act.put, List.setIfInBounds_toArray, List.set_cons_zero, List.set_cons_succ]
        refine wpAnyH_take (i := 3) (oi := { dst := some 20, op := Op.move (Operand.tmp 7), type := 3, pos := "wire.go:82", after := #[], guard := none }) (v := ?_) rfl (by kernel_rfl) (by kernel_rfl) (by kernel_rfl) (fun _ _ _ h => h) (Or.inl ⟨by rfl, ?hyr7x3q10⟩) (by assumption) ?restr7x3q10
        case hyr7x3q10 => intro wq hSw; (go_simp); (try with_reducible rfl)
        try simp only [Act.put, List.setIfInBounds_toArray, List.set_cons_zero, List.set_cons_succ]
        refine wpAnyH_take (i := 4) (oi := { dst := some 21, op := Op.slice 23 (Operand.tmp 19) (some (Operand.tmp 20)) none none, type := 23, pos := "wire.go:82", after := #[{ on := 2, ground := Ground.data }, { on := 3, ground := Ground.data }], guard := none }) (v := ?_) rfl (by kernel_rfl) (by kernel_rfl) (by kernel_rfl) (fun _ _ _ h => h) (Or.inl ⟨by rfl, ?hyr7x4q13⟩) (by assumption) ?restr7x4q13
        case hyr7x4q13 => intro wq hSw; (go_simp); (try with_reducible rfl)
        try simp only [Act.put, List.setIfInBounds_toArray, List.set_cons_zero, List.set_cons_succ]
        refine wpAnyH_take (i := 5) (oi := { dst := some 22, op := Op.fieldAddr 91 (Operand.tmp 2) 1, type := 0, pos := "wire.go:82", after := #[], guard := none }) (v := ?_) rfl (by kernel_rfl) (by kernel_rfl) (by kernel_rfl) (fun _ _ _ h => h) (Or.inl ⟨by rfl, ?hyr7x5q16⟩) (by assumption) ?restr7x5q16
        case hyr7x5q16 => intro wq hSw; (go_simp); (try with_reducible rfl)
        try simp only [Act.put, List.setIfInBounds_toArray, List.set_cons_zero, List.set_cons_succ]
        refine wpAnyH_take (i := 6) (oi := { dst := some 23, op := Op.load 4 (Operand.tmp 22), type := 4, pos := "wire.go:82", after := #[{ on := 5, ground := Ground.data }], guard := none }) (v := ?_) rfl (by kernel_rfl) (by kernel_rfl) (by kernel_rfl) (fun _ _ _ h => h) (Or.inl ⟨by rfl, ?hyr7x6q19⟩) (by assumption) ?restr7x6q19
        case hyr7x6q19 => intro wq hSw; (have cq := Chg.cellv hSw p1 hgg; go_simp); (try with_reducible rfl)
        try simp only [Act.put, List.setIfInBounds_toArray, List.set_cons_zero, List.set_cons_succ]
        refine wpAnyH_take (i := 7) (oi := { dst := some 24, op := Op.move (Operand.tmp 23), type := 4, pos := "wire.go:82", after := #[{ on := 6, ground := Ground.data }], guard := none }) (v := ?_) rfl (by kernel_rfl) (by kernel_rfl) (by kernel_rfl) (fun _ _ _ h => h) (Or.inl ⟨by rfl, ?hyr7x7q22⟩) (by assumption) ?restr7x7q22
        case hyr7x7q22 => intro wq hSw; (go_simp); (try with_reducible rfl)
        try simp only [Act.put, List.setIfInBounds_toArray, List.set_cons_zero, List.set_cons_succ]
        refine wpAnyH_take (i := 8) (oi := { dst := some 25, op := Op.move (Operand.tmp 8), type := 33, pos := "wire.go:82", after := #[{ on := 7, ground := Ground.guard }, { on := 12, ground := Ground.gcOnly Departure.lateStores }], guard := some (7, true) }) (v := undef) rfl (by kernel_rfl) (by kernel_rfl) (by kernel_rfl) (fun _ _ _ h => h) (Or.inr ⟨by rfl, rfl⟩) (by assumption) ?_
        try simp only [Act.put, List.setIfInBounds_toArray, List.set_cons_zero, List.set_cons_succ]
        refine wpAnyH_take (i := 9) (oi := { dst := some 26, op := Op.binOp BinOp.eql 33 (Operand.tmp 25) (Operand.const (Value.int IntKind.i64 0)) 33, type := 4, pos := "wire.go:82", after := #[{ on := 8, ground := Ground.data }, { on := 7, ground := Ground.guard }, { on := 12, ground := Ground.gcOnly Departure.lateStores }], guard := some (7, true) }) (v := undef) rfl (by kernel_rfl) (by kernel_rfl) (by kernel_rfl) (fun _ _ _ h => h) (Or.inr ⟨by rfl, rfl⟩) (by assumption) ?_
        try simp only [Act.put, List.setIfInBounds_toArray, List.set_cons_zero, List.set_cons_succ]
        refine wpAnyH_take (i := 10) (oi := { dst := some 27, op := Op.pick (Operand.tmp 24) (Operand.tmp 26) (Operand.const (Value.bool false)), type := 4, pos := "wire.go:82", after := #[{ on := 7, ground := Ground.data }, { on := 9, ground := Ground.data }, { on := 12, ground := Ground.gcOnly Departure.lateStores }], guard := none }) (v := ?_) rfl (by kernel_rfl) (by kernel_rfl) (by kernel_rfl) (fun _ _ _ h => h) (Or.inl ⟨by rfl, ?hyr7x10q29⟩) (by assumption) ?restr7x10q29
        case hyr7x10q29 => intro wq hSw; (go_simp); (try with_reducible rfl)
        try simp only [Act.put, List.setIfInBounds_toArray, List.set_cons_zero, List.set_cons_succ]
        refine wpAnyH_take (i := 11) (oi := { dst := some 28, op := Op.build 91 #[(0, Operand.tmp 21), (1, Operand.tmp 27)], type := 91, pos := "wire.go:82", after := #[{ on := 4, ground := Ground.data }, { on := 10, ground := Ground.data }, { on := 12, ground := Ground.gcOnly Departure.lateStores }], guard := none }) (v := ?_) rfl (by kernel_rfl) (by kernel_rfl) (by kernel_rfl) (fun _ _ _ h => h) (Or.inl ⟨by rfl, ?hyr7x11q32⟩) (by assumption) ?restr7x11q32
        case hyr7x11q32 => intro wq hSw; (go_simp); (try with_reducible rfl)
        try simp only [Act.put, List.setIfInBounds_toArray, List.set_cons_zero, List.set_cons_succ]
        refine wpAnyH_take (i := 12) (oi := { dst := some 4, op := Op.assign (Operand.tmp 17), type := 9, pos := "wire.go:82", after := #[{ on := 0, ground := Ground.data }, { on := 7, ground := Ground.chain }, { on := 0, ground := Ground.phase }, { on := 1, ground := Ground.textOnly Departure.lateStores }, { on := 2, ground := Ground.textOnly Departure.lateStores }, { on := 3, ground := Ground.textOnly Departure.lateStores }, { on := 4, ground := Ground.textOnly Departure.lateStoresUnsure }, { on := 5, ground := Ground.textOnly Departure.lateStores }, { on := 6, ground := Ground.textOnly Departure.lateStores }, { on := 7, ground := Ground.textOnly Departure.lateStores }, { on := 8, ground := Ground.textOnly Departure.lateStores }, { on := 9, ground := Ground.textOnly Departure.lateStores }, { on := 10, ground := Ground.textOnly Departure.lateStores }, { on := 11, ground := Ground.textOnly Departure.lateStores }], guard := none }) (v := ?_) rfl (by kernel_rfl) (by kernel_rfl) (by kernel_rfl) (fun _ _ _ h => h) (Or.inl ⟨by rfl, ?hyr7x12q35⟩) (by assumption) ?restr7x12q35
        case hyr7x12q35 => intro wq hSw; (go_simp); (try with_reducible rfl)
        try simp only [Act.put, List.setIfInBounds_toArray, List.set_cons_zero, List.set_cons_succ]
        refine wpAnyH_ready (rs := [13]) (by kernel_rfl) (by simp) ?_
        refine AllReadyH.cons (o := { dst := none, op := Op.store 91 (Operand.tmp 5) (Operand.tmp 28), type := 0, pos := "wire.go:82", after := #[{ on := 11, ground := Ground.data }, { on := 12, ground := Ground.chain }, { on := 0, ground := Ground.phase }, { on := 1, ground := Ground.phase }, { on := 2, ground := Ground.phase }, { on := 3, ground := Ground.phase }, { on := 4, ground := Ground.phase }, { on := 5, ground := Ground.phase }, { on := 6, ground := Ground.phase }, { on := 7, ground := Ground.phase }, { on := 8, ground := Ground.phase }, { on := 9, ground := Ground.phase }, { on := 10, ground := Ground.phase }, { on := 11, ground := Ground.phase }, { on := 12, ground := Ground.phase }], guard := none }) rfl (fun K hK => ?_) AllReadyH.nil
        go_simp
        refine hK.out _ _ ((Chg.setCell (Chg.setCell hHeld _ (fun x hx => hx)) _ (fun x hx => hx))) (fun hHeld => ?_)
        clear hK K
        try simp only [Act.put, List.setIfInBounds_toArray, List.set_cons_zero, List.set_cons_succ]
        refine wpAnyH_done (by kernel_rfl) ?_ _
        go_wp2_with fail
        refine bodyPost_ret (v := .tuple #[.string N, .agg #[.slice (some ⟨x, o + K, none⟩) (n - K) (c - K), .bool false]]) (by simp [results, Tryd.results56, go_sem, *]) rfl ?_
        rw [← HT.out]
        simp only []
        rw [HB.out]
        have k9 := ((kk.setNew (p := ⟨g2, 0, none⟩) (.slice (some ⟨x, o + K, none⟩) (n - K) (c - K)) hgw).setNew (p := ⟨g2, 1, none⟩) (.bool false) hgw).drew
        exact rd_done (sl_from (HS.out.nx k9) hk) (by omega) (by omega) (.inr ⟨_, _, rfl⟩) (fun x' o' hx' => by cases hx' <;> exact ⟨_, rfl⟩) k9
      | true =>
        by_cases hE : E = 0
        · subst hE
          have HB : Hid ((true && ((0 : Nat) == 0)) = true) := Lib.hid (by simp [*])
          go_wp2_with fail
          refine wp_region_held_drew (S := Chg (· ≠ g2) w2) (by kernel_rfl) ((Chg.refl _ w2).drew) (fun hHeld => ?_)
          refine wpAnyH_take (i := 0) (oi := { dst := some 17, op := Op.move (Operand.tmp 6), type := 9, pos := "wire.go:82", after := #[], guard := none }) (v := ?_) rfl (by kernel_rfl) (by kernel_rfl) (by kernel_rfl) (fun _ _ _ h => h) (Or.inl ⟨by rfl, ?hyr8x0q1⟩) (by assumption) ?restr8x0q1
          case hyr8x0q1 => intro wq hSw; (go_simp); (try with_reducible rfl)
          try simp only [Act.put, List.setIfInBounds_toArray, List.set_cons_zero, List.set_cons_succ]
          refine wpAnyH_take (i := 1) (oi := { dst := some 18, op := Op.fieldAddr 91 (Operand.tmp 2) 0, type := 0, pos := "wire.go:82", after := #[], guard := none }) (v := ?_) rfl (by kernel_rfl) (by kernel_rfl) (by kernel_rfl) (fun _ _ _ h => h) (Or.inl ⟨by rfl, ?hyr8x1q4⟩) (by assumption) ?restr8x1q4
          case hyr8x1q4 => intro wq hSw; (go_simp); (try with_reducible rfl)
          try simp only [Act.put, List.setIfInBounds_toArray, List.set_cons_zero, List.set_cons_succ]
          refine wpAnyH_take (i := 2) (oi := { dst := some 19, op := Op.load 23 (Operand.tmp 18), type := 23, pos := "wire.go:82", after := #[{ on := 1, ground := Ground.data }], guard := none }) (v := ?_) rfl (by kernel_rfl) (by kernel_rfl) (by kernel_rfl) (fun _ _ _ h => h) (Or.inl ⟨by rfl, ?hyr8x2q7⟩) (by assumption) ?restr8x2q7
          case hyr8x2q7 => intro wq hSw; (have cq := Chg.cellv hSw p0 hgg; go_simp); (try with_reducible rfl)
          try simp only [Act.put, List.setIfInBounds_toArray, List.set_cons_zero, List.set_cons_succ]
          refine wpAnyH_take (i := 3) (oi := { dst := some 20, op := Op.move (Operand.tmp 7), type := 3, pos := "wire.go:82", after := #[], guard := none }) (v := ?_) rfl (by kernel_rfl) (by kernel_rfl) (by kernel_rfl) (fun _ _ _ h => h) (Or.inl ⟨by rfl, ?hyr8x3q10⟩) (by assumption) ?restr8x3q10
          case hyr8x3q10 => intro wq hSw; (go_simp); (try with_reducible rfl)
          try simp only [Act.put, List.setIfInBounds_toArray, List.set_cons_zero, List.set_cons_succ]
          refine wpAnyH_take (i := 4) (oi := { dst := some 21, op := Op.slice 23 (Operand.tmp 19) (some (Operand.tmp 20)) none none, type := 23, pos := "wire.go:82", after := #[{ on := 2, ground := Ground.data }, { on := 3, ground := Ground.data }], guard := none }) (v := ?_) rfl (by kernel_rfl) (by kernel_rfl) (by kernel_rfl) (fun _ _ _ h => h) (Or.inl ⟨by rfl, ?hyr8x4q13⟩) (by assumption) ?restr8x4q13
          case hyr8x4q13 => intro wq hSw; (go_simp); (try with_reducible rfl)
          try simp only [Act.put, List.setIfInBounds_toArray, List.set_cons_zero, List.set_cons_succ]
          refine wpAnyH_take (i := 5) (oi := { dst := some 22, op := Op.fieldAddr 91 (Operand.tmp 2) 1, type := 0, pos := "wire.go:82", after := #[], guard := none }) (v := ?_) rfl (by kernel_rfl) (by kernel_rfl) (by kernel_rfl) (fun _ _ _ h => h) (Or.inl ⟨by rfl, ?hyr8x5q16⟩) (by assumption) ?restr8x5q16
          case hyr8x5q16 => intro wq hSw; (go_simp); (try with_reducible rfl)
          try simp only [Act.put, List.setIfInBounds_toArray, List.set_cons_zero, List.set_cons_succ]
          refine wpAnyH_take (i := 6) (oi := { dst := some 23, op := Op.load 4 (Operand.tmp 22), type := 4, pos := "wire.go:82", after := #[{ on := 5, ground := Ground.data }], guard := none }) (v := ?_) rfl (by kernel_rfl) (by kernel_rfl) (by kernel_rfl) (fun _ _ _ h => h) (Or.inl ⟨by rfl, ?hyr8x6q19⟩) (by assumption) ?restr8x6q19
          case hyr8x6q19 => intro wq hSw; (have cq := Chg.cellv hSw p1 hgg; go_simp); (try with_reducible rfl)
          try simp only [Act.put, List.setIfInBounds_toArray, List.set_cons_zero, List.set_cons_succ]
          refine wpAnyH_take (i := 7) (oi := { dst := some 24, op := Op.move (Operand.tmp 23), type := 4, pos := "wire.go:82", after := #[{ on := 6, ground := Ground.data }], guard := none }) (v := ?_) rfl (by kernel_rfl) (by kernel_rfl) (by kernel_rfl) (fun _ _ _ h => h) (Or.inl ⟨by rfl, ?hyr8x7q22⟩) (by assumption) ?restr8x7q22
          case hyr8x7q22 => intro wq hSw; (go_simp); (try with_reducible rfl)
          try simp only [Act.put, List.setIfInBounds_toArray, List.set_cons_zero, List.set_cons_succ]
          refine wpAnyH_take (i := 8) (oi := { dst := some 25, op := Op.move (Operand.tmp 8), type := 33, pos := "wire.go:82", after := #[{ on := 7, ground := Ground.guard }, { on := 12, ground := Ground.gcOnly Departure.lateStores }], guard := some (7, true) }) (v := ?_) rfl (by kernel_rfl) (by kernel_rfl) (by kernel_rfl) (fun _ _ _ h => h) (Or.inl ⟨by rfl, ?hyr8x8q25⟩) (by assumption) ?restr8x8q25
          case hyr8x8q25 => intro wq hSw; (go_simp); (try with_reducible rfl)
          try simp only [Act.put, List.setIfInBounds_toArray, List.set_cons_zero, List.set_cons_succ]
          refine wpAnyH_take (i := 9) (oi := { dst := some 26, op := Op.binOp BinOp.eql 33 (Operand.tmp 25) (Operand.const (Value.int IntKind.i64 0)) 33, type := 4, pos := "wire.go:82", after := #[{ on := 8, ground := Ground.data }, { on := 7, ground := Ground.guard }, { on := 12, ground := Ground.gcOnly Departure.lateStores }], guard := some (7, true) }) (v := ?_) rfl (by kernel_rfl) (by kernel_rfl) (by kernel_rfl) (fun _ _ _ h => h) (Or.inl ⟨by rfl, ?hyr8x9q28⟩) (by assumption) ?restr8x9q28
          case hyr8x9q28 => intro wq hSw; (go_simp); (try with_reducible rfl)
          try simp only [Act.put, List.setIfInBounds_toArray, List.set_cons_zero, List.set_cons_succ]
          refine wpAnyH_take (i := 10) (oi := { dst := some 27, op := Op.pick (Operand.tmp 24) (Operand.tmp 26) (Operand.const (Value.bool false)), type := 4, pos := "wire.go:82", after := #[{ on := 7, ground := Ground.data }, { on := 9, ground := Ground.data }, { on := 12, ground := Ground.gcOnly Departure.lateStores }], guard := none }) (v := ?_) rfl (by kernel_rfl) (by kernel_rfl) (by kernel_rfl) (fun _ _ _ h => h) (Or.inl ⟨by rfl, ?hyr8x10q31⟩) (by assumption) ?restr8x10q31
          case hyr8x10q31 => intro wq hSw; (go_simp); (try with_reducible rfl)
          try simp only [Act.put, List.setIfInBounds_toArray, List.set_cons_zero, List.set_cons_succ]
          refine wpAnyH_take (i := 11) (oi := { dst := some 28, op := Op.build 91 #[(0, Operand.tmp 21), (1, Operand.tmp 27)], type := 91, pos := "wire.go:82", after := #[{ on := 4, ground := Ground.data }, { on := 10, ground := Ground.data }, { on := 12, ground := Ground.gcOnly Departure.lateStores }], guard := none }) (v := ?_) rfl (by kernel_rfl) (by kernel_rfl) (by kernel_rfl) (fun _ _ _ h => h) (Or.inl ⟨by rfl, ?hyr8x11q34⟩) (by assumption) ?restr8x11q34
          case hyr8x11q34 => intro wq hSw; (go_simp); (try with_reducible rfl)
          try simp only [Act.put, List.setIfInBounds_toArray, List.set_cons_zero, List.set_cons_succ]
          refine wpAnyH_take (i := 12) (oi := { dst := some 4, op := Op.assign (Operand.tmp 17), type := 9, pos := "wire.go:82", after := #[{ on := 0, ground := Ground.data }, { on := 7, ground := Ground.chain }, { on := 0, ground := Ground.phase }, { on := 1, ground := Ground.textOnly Departure.lateStores }, { on := 2, ground := Ground.textOnly Departure.lateStores }, { on := 3, ground := Ground.textOnly Departure.lateStores }, { on := 4, ground := Ground.textOnly Departure.lateStoresUnsure }, { on := 5, ground := Ground.textOnly Departure.lateStores }, { on := 6, ground := Ground.textOnly Departure.lateStores }, { on := 7, ground := Ground.textOnly Departure.lateStores }, { on := 8, ground := Ground.textOnly Departure.lateStores }, { on := 9, ground := Ground.textOnly Departure.lateStores }, { on := 10, ground := Ground.textOnly Departure.lateStores }, { on := 11, ground := Ground.textOnly Departure.lateStores }], guard := none }) (v := ?_) rfl (by kernel_rfl) (by kernel_rfl) (by kernel_rfl) (fun _ _ _ h => h) (Or.inl ⟨by rfl, ?hyr8x12q37⟩) (by assumption) ?restr8x12q37
          case hyr8x12q37 => intro wq hSw; (go_simp); (try with_reducible rfl)
          try simp only [Act.put, List.setIfInBounds_toArray, List.set_cons_zero, List.set_cons_succ]
          refine wpAnyH_ready (rs := [13]) (by kernel_rfl) (by simp) ?_
          refine AllReadyH.cons (o := { dst := none, op := Op.store 91 (Operand.tmp 5) (Operand.tmp 28), type := 0, pos := "wire.go:82", after := #[{ on := 11, ground := Ground.data }, { on := 12, ground := Ground.chain }, { on := 0, ground := Ground.phase }, { on := 1, ground := Ground.phase }, { on := 2, ground := Ground.phase }, { on := 3, ground := Ground.phase }, { on := 4, ground := Ground.phase }, { on := 5, ground := Ground.phase }, { on := 6, ground := Ground.phase }, { on := 7, ground := Ground.phase }, { on := 8, ground := Ground.phase }, { on := 9, ground := Ground.phase }, { on := 10, ground := Ground.phase }, { on := 11, ground := Ground.phase }, { on := 12, ground := Ground.phase }], guard := none }) rfl (fun K hK => ?_) AllReadyH.nil
          go_simp
          refine hK.out _ _ ((Chg.setCell (Chg.setCell hHeld _ (fun x hx => hx)) _ (fun x hx => hx))) (fun hHeld => ?_)
          clear hK K
          try simp only [Act.put, List.setIfInBounds_toArray, List.set_cons_zero, List.set_cons_succ]
          refine wpAnyH_done (by kernel_rfl) ?_ _
          go_wp2_with fail
          refine bodyPost_ret (v := .tuple #[.string N, .agg #[.slice (some ⟨x, o + K, none⟩) (n - K) (c - K), .bool true]]) (by simp [results, Tryd.results56, go_sem, *]) rfl ?_
          rw [← HT.out]
          simp only []
          rw [HB.out]
          have k9 := ((kk.setNew (p := ⟨g2, 0, none⟩) (.slice (some ⟨x, o + K, none⟩) (n - K) (c - K)) hgw).setNew (p := ⟨g2, 1, none⟩) (.bool true) hgw).drew
          exact rd_done (sl_from (HS.out.nx k9) hk) (by omega) (by omega) (.inr ⟨_, _, rfl⟩) (fun x' o' hx' => by cases hx' <;> exact ⟨_, rfl⟩) k9
        · have hEI : ((E : Int) == 0) = false := beq_eq_false_iff_ne.2 (by omega)
          have HB : Hid ((true && (E == 0)) = false) := Lib.hid (by simp [*])
          go_wp2_with fail
          refine wp_region_held_drew (S := Chg (· ≠ g2) w2) (by kernel_rfl) ((Chg.refl _ w2).drew) (fun hHeld => ?_)
          refine wpAnyH_take (i := 0) (oi := { dst := some 17, op := Op.move (Operand.tmp 6), type := 9, pos := "wire.go:82", after := #[], guard := none }) (v := ?_) rfl (by kernel_rfl) (by kernel_rfl) (by kernel_rfl) (fun _ _ _ h => h) (Or.inl ⟨by rfl, ?hyr9x0q1⟩) (by assumption) ?restr9x0q1
          case hyr9x0q1 => intro wq hSw; (go_simp); (try with_reducible rfl)
          try simp only [Act.put, List.setIfInBounds_toArray, List.set_cons_zero, List.set_cons_succ]
          refine wpAnyH_take (i := 1) (oi := { dst := some 18, op := Op.fieldAddr 91 (Operand.tmp 2) 0, type := 0, pos := "wire.go:82", after := #[], guard := none }) (v := ?_) rfl (by kernel_rfl) (by kernel_rfl) (by kernel_rfl) (fun _ _ _ h => h) (Or.inl ⟨by rfl, ?hyr9x1q4⟩) (by assumption) ?restr9x1q4
          case hyr9x1q4 => intro wq hSw; (go_simp); (try with_reducible rfl)
          try simp only [Act.put, List.setIfInBounds_toArray, List.set_cons_zero, List.set_cons_succ]
          refine wpAnyH_take (i := 2) (oi := { dst := some 19, op := Op.load 23 (Operand.tmp 18), type := 23, pos := "wire.go:82", after := #[{ on := 1, ground := Ground.data }], guard := none }) (v := ?_) rfl (by kernel_rfl) (by kernel_rfl) (by kernel_rfl) (fun _ _ _ h => h) (Or.inl ⟨by rfl, ?hyr9x2q7⟩) (by assumption) ?restr9x2q7
          case hyr9x2q7 => intro wq hSw; (have cq := Chg.cellv hSw p0 hgg; go_simp); (try with_reducible rfl)
          try simp only [Act.put, List.setIfInBounds_toArray, List.set_cons_zero, List.set_cons_succ]
          refine wpAnyH_take (i := 3) (oi := { dst := some 20, op := Op.move (Operand.tmp 7), type := 3, pos := "wire.go:82", after := #[], guard := none }) (v := ?_) rfl (by kernel_rfl) (by kernel_rfl) (by kernel_rfl) (fun _ _ _ h => h) (Or.inl ⟨by rfl, ?hyr9x3q10⟩) (by assumption) ?restr9x3q10
          case hyr9x3q10 => intro wq hSw; (go_simp); (try with_reducible rfl)
          try simp only [Act.put, List.setIfInBounds_toArray, List.set_cons_zero, List.set_cons_succ]
          refine wpAnyH_take (i := 4) (oi := { dst := some 21, op := Op.slice 23 (Operand.tmp 19) (some (Operand.tmp 20)) none none, type := 23, pos := "wire.go:82", after := #[{ on := 2, ground := Ground.data }, { on := 3, ground := Ground.data }], guard := none }) (v := ?_) rfl (by kernel_rfl) (by kernel_rfl) (by kernel_rfl) (fun _ _ _ h => h) (Or.inl ⟨by rfl, ?hyr9x4q13⟩) (by assumption) ?restr9x4q13
          case hyr9x4q13 => intro wq hSw; (go_simp); (try with_reducible rfl)
          try simp only [Act.put, List.setIfInBounds_toArray, List.set_cons_zero, List.set_cons_succ]
          refine wpAnyH_take (i := 5) (oi := { dst := some 22, op := Op.fieldAddr 91 (Operand.tmp 2) 1, type := 0, pos := "wire.go:82", after := #[], guard := none }) (v := ?_) rfl (by kernel_rfl) (by kernel_rfl) (by kernel_rfl) (fun _ _ _ h => h) (Or.inl ⟨by rfl, ?hyr9x5q16⟩) (by assumption) ?restr9x5q16
          case hyr9x5q16 => intro wq hSw; (go_simp); (try with_reducible rfl)
          try simp only [Act.put, List.setIfInBounds_toArray, List.set_cons_zero, List.set_cons_succ]
          refine wpAnyH_take (i := 6) (oi := { dst := some 23, op := Op.load 4 (Operand.tmp 22), type := 4, pos := "wire.go:82", after := #[{ on := 5, ground := Ground.data }], guard := none }) (v := ?_) rfl (by kernel_rfl) (by kernel_rfl) (by kernel_rfl) (fun _ _ _ h => h) (Or.inl ⟨by rfl, ?hyr9x6q19⟩) (by assumption) ?restr9x6q19
          case hyr9x6q19 => intro wq hSw; (have cq := Chg.cellv hSw p1 hgg; go_simp); (try with_reducible rfl)
          try simp only [Act.put, List.setIfInBounds_toArray, List.set_cons_zero, List.set_cons_succ]
          refine wpAnyH_take (i := 7) (oi := { dst := some 24, op := Op.move (Operand.tmp 23), type := 4, pos := "wire.go:82", after := #[{ on := 6, ground := Ground.data }], guard := none }) (v := ?_) rfl (by kernel_rfl) (by kernel_rfl) (by kernel_rfl) (fun _ _ _ h => h) (Or.inl ⟨by rfl, ?hyr9x7q22⟩) (by assumption) ?restr9x7q22
          case hyr9x7q22 => intro wq hSw; (go_simp); (try with_reducible rfl)
          try simp only [Act.put, List.setIfInBounds_toArray, List.set_cons_zero, List.set_cons_succ]
          refine wpAnyH_take (i := 8) (oi := { dst := some 25, op := Op.move (Operand.tmp 8), type := 33, pos := "wire.go:82", after := #[{ on := 7, ground := Ground.guard }, { on := 12, ground := Ground.gcOnly Departure.lateStores }], guard := some (7, true) }) (v := ?_) rfl (by kernel_rfl) (by kernel_rfl) (by kernel_rfl) (fun _ _ _ h => h) (Or.inl ⟨by rfl, ?hyr9x8q25⟩) (by assumption) ?restr9x8q25
          case hyr9x8q25 => intro wq hSw; (go_simp); (try with_reducible rfl)
          try simp only [Act.put, List.setIfInBounds_toArray, List.set_cons_zero, List.set_cons_succ]
          refine wpAnyH_take (i := 9) (oi := { dst := some 26, op := Op.binOp BinOp.eql 33 (Operand.tmp 25) (Operand.const (Value.int IntKind.i64 0)) 33, type := 4, pos := "wire.go:82", after := #[{ on := 8, ground := Ground.data }, { on := 7, ground := Ground.guard }, { on := 12, ground := Ground.gcOnly Departure.lateStores }], guard := some (7, true) }) (v := ?_) rfl (by kernel_rfl) (by kernel_rfl) (by kernel_rfl) (fun _ _ _ h => h) (Or.inl ⟨by rfl, ?hyr9x9q28⟩) (by assumption) ?restr9x9q28
          case hyr9x9q28 => intro wq hSw; (go_simp); (try with_reducible rfl)
          try simp only [Act.put, List.setIfInBounds_toArray, List.set_cons_zero, List.set_cons_succ]
          refine wpAnyH_take (i := 10) (oi := { dst := some 27, op := Op.pick (Operand.tmp 24) (Operand.tmp 26) (Operand.const (Value.bool false)), type := 4, pos := "wire.go:82", after := #[{ on := 7, ground := Ground.data }, { on := 9, ground := Ground.data }, { on := 12, ground := Ground.gcOnly Departure.lateStores }], guard := none }) (v := ?_) rfl (by kernel_rfl) (by kernel_rfl) (by kernel_rfl) (fun _ _ _ h => h) (Or.inl ⟨by rfl, ?hyr9x10q31⟩) (by assumption) ?restr9x10q31
          case hyr9x10q31 => intro wq hSw; (go_simp); (try with_reducible rfl)
          try simp only [Act.put, List.setIfInBounds_toArray, List.set_cons_zero, List.set_cons_succ]
          refine wpAnyH_take (i := 11) (oi := { dst := some 28, op := Op.build 91 #[(0, Operand.tmp 21), (1, Operand.tmp 27)], type := 91, pos := "wire.go:82", after := #[{ on := 4, ground := Ground.data }, { on := 10, ground := Ground.data }, { on := 12, ground := Ground.gcOnly Departure.lateStores }], guard := none }) (v := ?_) rfl (by kernel_rfl) (by kernel_rfl) (by kernel_rfl) (fun _ _ _ h => h) (Or.inl ⟨by rfl, ?hyr9x11q34⟩) (by assumption) ?restr9x11q34
          case hyr9x11q34 => intro wq hSw; (go_simp); (try with_reducible rfl)
          try simp only [Act.put, List.setIfInBounds_toArray, List.set_cons_zero, List.set_cons_succ]
          refine wpAnyH_take (i := 12) (oi := { dst := some 4, op := Op.assign (Operand.tmp 17), type := 9, pos := "wire.go:82", after := #[{ on := 0, ground := Ground.data }, { on := 7, ground := Ground.chain }, { on := 0, ground := Ground.phase }, { on := 1, ground := Ground.textOnly Departure.lateStores }, { on := 2, ground := Ground.textOnly Departure.lateStores }, { on := 3, ground := Ground.textOnly Departure.lateStores }, { on := 4, ground := Ground.textOnly Departure.lateStoresUnsure }, { on := 5, ground := Ground.textOnly Departure.lateStores }, { on := 6, ground := Ground.textOnly Departure.lateStores }, { on := 7, ground := Ground.textOnly Departure.lateStores }, { on := 8, ground := Ground.textOnly Departure.lateStores }, { on := 9, ground := Ground.textOnly Departure.lateStores }, { on := 10, ground := Ground.textOnly Departure.lateStores }, { on := 11, ground := Ground.textOnly Departure.lateStores }], guard := none }) (v := ?_) rfl (by kernel_rfl) (by kernel_rfl) (by kernel_rfl) (fun _ _ _ h => h) (Or.inl ⟨by rfl, ?hyr9x12q37⟩) (by assumption) ?restr9x12q37
          case hyr9x12q37 => intro wq hSw; (go_simp); (try with_reducible rfl)
          try simp only [Act.put, List.setIfInBounds_toArray, List.set_cons_zero, List.set_cons_succ]
          refine wpAnyH_ready (rs := [13]) (by kernel_rfl) (by simp) ?_
          refine AllReadyH.cons (o := { dst := none, op := Op.store 91 (Operand.tmp 5) (Operand.tmp 28), type := 0, pos := "wire.go:82", after := #[{ on := 11, ground := Ground.data }, { on := 12, ground := Ground.chain }, { on := 0, ground := Ground.phase }, { on := 1, ground := Ground.phase }, { on := 2, ground := Ground.phase }, { on := 3, ground := Ground.phase }, { on := 4, ground := Ground.phase }, { on := 5, ground := Ground.phase }, { on := 6, ground := Ground.phase }, { on := 7, ground := Ground.phase }, { on := 8, ground := Ground.phase }, { on := 9, ground := Ground.phase }, { on := 10, ground := Ground.phase }, { on := 11, ground := Ground.phase }, { on := 12, ground := Ground.phase }], guard := none }) rfl (fun K hK => ?_) AllReadyH.nil
          go_simp
          refine hK.out _ _ ((Chg.setCell (Chg.setCell hHeld _ (fun x hx => hx)) _ (fun x hx => hx))) (fun hHeld => ?_)
          clear hK K
          try simp only [Act.put, List.setIfInBounds_toArray, List.set_cons_zero, List.set_cons_succ]
          refine wpAnyH_done (by kernel_rfl) ?_ _
          go_wp2_with fail
          refine bodyPost_ret (v := .tuple #[.string N, .agg #[.slice (some ⟨x, o + K, none⟩) (n - K) (c - K), .bool false]]) (by simp [results, Tryd.results56, go_sem, *]) rfl ?_
          rw [← HT.out]
          simp only []
          rw [HB.out]
          have k9 := ((kk.setNew (p := ⟨g2, 0, none⟩) (.slice (some ⟨x, o + K, none⟩) (n - K) (c - K)) hgw).setNew (p := ⟨g2, 1, none⟩) (.bool false) hgw).drew
          exact rd_done (sl_from (HS.out.nx k9) hk) (by omega) (by omega) (.inr ⟨_, _, rfl⟩) (fun x' o' hx' => by cases hx' <;> exact ⟨_, rfl⟩) k9

theorem ruint64_p (a : Option Addr) (n c : Nat) (R : List UInt8) (ok : Bool) (w : World) (h : Sl 1 encB w a n R) (hn : n ≤ 9223372036854775807) (hc : n ≤ c) (hm : c ≤ maxLen) (hf : Form a c) :
    Calls Tryd.prog 54 #[.agg #[.slice a n c, .bool ok], .int .u64 64] w (RdPost (.int .u64 (decR R).1) (R.drop (decR R).2.1) (ok && ((decR R).2.2 == 0) && decide ((decR R).1 ≤ 64)) a w) := ruint_p a n c R ok 64 w h hn hc hm hf (by omega)
theorem ruint32_p (a : Option Addr) (n c : Nat) (R : List UInt8) (ok : Bool) (w : World) (h : Sl 1 encB w a n R) (hn : n ≤ 9223372036854775807) (hc : n ≤ c) (hm : c ≤ maxLen) (hf : Form a c) :
    Calls Tryd.prog 54 #[.agg #[.slice a n c, .bool ok], .int .u64 4294967295] w (RdPost (.int .u64 (decR R).1) (R.drop (decR R).2.1) (ok && ((decR R).2.2 == 0) && decide ((decR R).1 ≤ 4294967295)) a w) := ruint_p a n c R ok 4294967295 w h hn hc hm hf (by omega)
theorem ruint17_p (a : Option Addr) (n c : Nat) (R : List UInt8) (ok : Bool) (w : World) (h : Sl 1 encB w a n R) (hn : n ≤ 9223372036854775807) (hc : n ≤ c) (hm : c ≤ maxLen) (hf : Form a c) :
    Calls Tryd.prog 54 #[.agg #[.slice a n c, .bool ok], .int .u64 17] w (RdPost (.int .u64 (decR R).1) (R.drop (decR R).2.1) (ok && ((decR R).2.2 == 0) && decide ((decR R).1 ≤ 17)) a w) := ruint_p a n c R ok 17 w h hn hc hm hf (by omega)
theorem rstr64_p (a : Option Addr) (n c : Nat) (R : List UInt8) (ok : Bool) (w : World) (h : Sl 1 encB w a n R) (hn : n ≤ 9223372036854775807) (hc : n ≤ c) (hm : c ≤ maxLen) (hf : Form a c) :
    Calls Tryd.prog 56 #[.agg #[.slice a n c, .bool ok], .int .i64 64] w (RdPost (.string (strN R 64).1) (R.drop (strN R 64).2.1) (ok && ((strN R 64).2.2 == 0)) a w) := rstr_p a n c R ok 64 w h hn hc hm hf (by omega)
end Go.Proofs.YtjaemckdfoaopaaDoor

/- What decoding gives: the plain functions. -/
namespace Go.Proofs.YtjaemckdfoaopaaDoor
open Go.RowKit

def pU (lim : Nat) (R : List UInt8) : Option (Nat × List UInt8) := if (decR R).2.2 = 0 ∧ (decR R).1 ≤ lim then some ((decR R).1, R.drop (decR R).2.1) else none
def pI (R : List UInt8) : Option (Int × List UInt8) := if (intR R).2.2 = 0 then some ((intR R).1, R.drop (intR R).2.1) else none
def pS (R : List UInt8) : Option (ByteArray × List UInt8) := if (strN R 64).2.2 = 0 then some ((strN R 64).1, R.drop (strN R 64).2.1) else none
def contN : Nat → List Nd → List UInt8 → Option (List Nd)
  | 0, out, R => if R.length = 0 then some out else none
  | m + 1, out, R => (pI R).bind fun r1 => (pS r1.2).bind fun r2 => (pU 4294967295 r2.2).bind fun r3 => contN m (out ++ [⟨r1.1, r2.1, r3.1⟩]) r3.2
def decN (R : List UInt8) : Option (List Nd) := (pU 64 R).bind fun r => contN r.1 [] r.2
def decNd (R : List UInt8) : List Nd × Int := match decN R with | some l => (l, 0) | none => ([], 4)
def DcPost (r : List Nd × Int) (w : World) (e : Ending) (w' : World) : Prop := ∃ v, e = .returned (.tuple #[v, .int .i64 r.2]) ∧ OwnL 3 encN 68 w.heap.size w' v r.1 ∧ Ex w w'

theorem contN_step (m : Nat) (out : List Nd) (R : List UInt8) (ok1 ok2 ok3 : Bool) (h1 : ok1 = ((intR R).2.2 == 0)) (h2 : ok2 = (ok1 && ((strN (R.drop (intR R).2.1) 64).2.2 == 0)))
    (h3 : ok3 = (ok2 && ((decR ((R.drop (intR R).2.1).drop (strN (R.drop (intR R).2.1) 64).2.1)).2.2 == 0) && decide ((decR ((R.drop (intR R).2.1).drop (strN (R.drop (intR R).2.1) 64).2.1)).1 ≤ 4294967295))) :
    contN (m + 1) out R = if ok3 then contN m (out ++ [⟨(intR R).1, (strN (R.drop (intR R).2.1) 64).1, (decR ((R.drop (intR R).2.1).drop (strN (R.drop (intR R).2.1) 64).2.1)).1 % 4294967296⟩])
      (((R.drop (intR R).2.1).drop (strN (R.drop (intR R).2.1) 64).2.1).drop (decR ((R.drop (intR R).2.1).drop (strN (R.drop (intR R).2.1) 64).2.1)).2.1) else none := by
  show (pI R).bind _ = _
  by_cases e1 : (intR R).2.2 = 0
  · have d1 : ok1 = true := by rw [h1]; simpa using e1
    rw [show pI R = some ((intR R).1, R.drop (intR R).2.1) from if_pos e1]
    simp only [Option.bind_some]
    by_cases e2 : (strN (R.drop (intR R).2.1) 64).2.2 = 0
    · have d2 : ok2 = true := by rw [h2, d1]; simpa using e2
      rw [show pS (R.drop (intR R).2.1) = some ((strN (R.drop (intR R).2.1) 64).1, (R.drop (intR R).2.1).drop (strN (R.drop (intR R).2.1) 64).2.1) from if_pos e2]
      simp only [Option.bind_some]
      generalize (R.drop (intR R).2.1).drop (strN (R.drop (intR R).2.1) 64).2.1 = R2 at h3 ⊢
      by_cases e3 : (decR R2).2.2 = 0 ∧ (decR R2).1 ≤ 4294967295
      · have d3 : ok3 = true := by rw [h3, d2]; simpa using e3
        rw [show pU 4294967295 R2 = some ((decR R2).1, R2.drop (decR R2).2.1) from if_pos e3, d3]
        simp only [Option.bind_some, if_true]
        rw [Nat.mod_eq_of_lt (by omega)]
      · have d3 : ok3 = false := by
          rw [h3, d2]
          simp only [Bool.true_and, Bool.and_eq_false_iff, beq_eq_false_iff_ne, decide_eq_false_iff_not]
          by_cases e4 : (decR R2).2.2 = 0
          · exact .inr (fun h => e3 ⟨e4, h⟩)
          · exact .inl e4
        rw [show pU 4294967295 R2 = none from if_neg e3, d3]
        simp
    · have d2 : ok2 = false := by rw [h2, d1]; simpa using e2
      rw [show pS (R.drop (intR R).2.1) = none from if_neg e2, h3, d2]
      simp
  · have d1 : ok1 = false := by rw [h1]; simpa using e1
    rw [show pI R = none from if_neg e1, h3, h2, d1]
    simp
end Go.Proofs.YtjaemckdfoaopaaDoor
