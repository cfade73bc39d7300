/- Texts for the statement SearchAgreesProof, part 10 of 11: SrAg. -/
import Derived.Deep.DeepCutAuto
import Derived.Test.YtkjlhcfocefhpaaDoorSearchAgreesProofPk9

/- The walk over SearchAgrees (printed by gen_l8.py). -/
namespace Go.Proofs.YtkjlhcfocefhpaaDoor
open Go.RowKit

def AgCut (b : Nat) (L : List Nd) (w : World) (s7 s8 s9 : Value) (wx : World) : Prop :=
  ∃ (g7 g8 : Nat) (y z : Nd) (K : ByteArray), s7 = .pointer (some ⟨g7, 0, none⟩) ∧ s8 = .pointer (some ⟨g8, 0, none⟩) ∧ s9 = .string K ∧ y ∈ L ∧ z ∈ L ∧ K.size ≤ 64 ∧ Blk wx g7 [.int .i64 y.id, .string y.key, .int .u32 y.word] 48 ∧ Blk wx g8 [.int .i64 z.id, .string z.key, .int .u32 z.word] 48 ∧ Exb b w wx
theorem newBlk {b : Nat} {w u : World} (h : Exb b w u) (hb : b < w.heap.size) (T : TK u b) : ∃ g v, g = u.heap.size ∧ v = u.alloc (.cells #[.int .i64 0, .string ⟨#[]⟩, .int .u32 0] 48) ∧ Blk v g [.int .i64 0, .string ⟨#[]⟩, .int .u32 0] 48 ∧ g ≠ b ∧ TK v b ∧ Exb b w v ∧ w.heap.size ≤ g ∧ Ex u v := by
  have := h.size
  exact ⟨_, _, rfl, rfl, Blk.new _ _ _, by omega, T.nx (Ex.new _ _), h.alloc _, this, Ex.new _ _⟩
theorem stoBlk {b : Nat} {w u : World} {g g' : Nat} {x0 x1 x2 : Value} {cs : List Value} {ty ty' : TypeId} (B : Blk u g [x0, x1, x2] ty) (h : Exb b w u) (z : w.heap.size ≤ g) (B' : Blk u g' cs ty') (hne : g' ≠ g) (a c d : Value) :
    ∃ v, v = (((u.setCell ⟨g, 0, none⟩ a).setCell ⟨g, 1, none⟩ c).setCell ⟨g, 2, none⟩ d) ∧ Exb b w v ∧ Blk v g [a, c, d] ty ∧ Blk v g' cs ty' :=
  ⟨_, rfl, ((h.setNew (p := ⟨g, 0, none⟩) a z).setNew (p := ⟨g, 1, none⟩) c z).setNew (p := ⟨g, 2, none⟩) d z, ((B.set 0 a).set 1 c).set 2 d, ((B'.set_ne (j := 0) a hne).set_ne (j := 1) c hne).set_ne (j := 2) d hne⟩
theorem cells_at {b : Nat} {w : World} {x o j : Nat} {y : Nd} (hx : x < w.heap.size ∧ x ≠ b) (hc : ∀ c u, (encN y)[c]? = some u → w.cell? ⟨x, o + j * 3 + c, none⟩ = some u) : ∀ wq, Exb b w wq → wq.cell? ⟨x, o + j * 3, none⟩ = some (.int .i64 y.id) ∧ wq.cell? ⟨x, o + j * 3 + 1, none⟩ = some (.string y.key) ∧ wq.cell? ⟨x, o + j * 3 + 1 + 1, none⟩ = some (.int .u32 y.word) :=
  fun wq k => ⟨Chg.cellv k (hc 0 _ rfl) hx, Chg.cellv k (hc 1 _ rfl) hx, Chg.cellv k (by simpa [Nat.add_assoc] using hc 2 _ rfl) hx⟩
set_option maxRecDepth 100000 in
set_option maxHeartbeats 16000000 in
theorem searchagrees_walk (a1 : Option Addr) (n1 c1 : Nat) (l1 : List Int) (w : World) (h1 : Sl 1 encI w a1 n1 l1) (hc1 : n1 ≤ c1) (hm1 : c1 ≤ maxLen) (hT : TabG w) (hL : LetG w) :
    Calls Tryd.prog 6 #[.slice a1 n1 c1] w fun e w' => e = .returned (.bool true) ∧ Ex w w' := by
  go_enter Tryd.func6, Tryd.ntmps6
  go_wp2_with fail
  refine (new_t _ _ _ l1 _ h1 hc1 hm1).mono ?_
  rintro e w1 ⟨rfl, T, kk, z1⟩
  obtain ⟨b, hb⟩ : ∃ b, b = w.heap.size := ⟨_, rfl⟩
  rw [← hb] at T ⊢
  have hgt : ¬ 1 = b := by have := hT.lt; omega
  have hgl : ¬ 0 = b := by have := hL.lt; omega
  have T1 : Hid (TabG w1) := Lib.hid (hT.nx kk)
  have L1 : Hid (LetG w1) := Lib.hid (hL.nx kk)
  have QL : Hid (Exl b w w1) := Lib.hid ⟨kk, by omega⟩
  clear h1 hT hL kk hb z1
  have hbo := T.lt
  go_wp2_with fail
  refine (some_n 9 _ T L1.out hgl (by omega) (by omega)).mono ?_
  clear T
  rintro e w2 ⟨v1, L, rfl, R, hL1⟩
  replace T1 := Lib.hid (T1.out.nxb hgt R.k)
  replace L1 := Lib.hid (L1.out.nxb hgl R.k)
  replace QL := Lib.hid (QL.out.nxb R.k)
  obtain ⟨aX, cX, rfl, SX, hcX, hmX, _⟩ := R.own.slf (fun _ => rfl)
  have SX := SX.slb hbo
  have RL := R.len
  have RC := Lib.hid R.ok
  have RN := Lib.hid (roster_ok R.ok)
  have XW := Lib.hid (fun x hx => (RN.out x hx).1.2.1)
  have T := R.tape
  clear R
  go_wp2_with fail
  refine (next_t 4 _ T (by omega) (by omega)).mono ?_
  clear T
  rintro e w3 ⟨r, rfl, r0, r1, T, kk⟩
  replace T1 := Lib.hid (T1.out.nxb hgt kk)
  replace L1 := Lib.hid (L1.out.nxb hgl kk)
  replace QL := Lib.hid (QL.out.nxb kk)
  replace SX := SX.nxb kk
  clear kk
  obtain ⟨h, rfl⟩ := Int.eq_ofNat_of_zero_le r0
  have hh : h ≤ 16 := by omega
  have hb3 := T.lt
  clear r0 r1
  go_wp2_with fail
  (with_reducible refine (build_p _ _ _ _ (h : Int) _ SX.sl (by omega) hcX hmX XW.out T1.out).mono ?_)
  rintro e w5 ⟨vL, qs, rfl, own, kk⟩
  replace T := T.nx kk
  replace T1 := Lib.hid (T1.out.nx kk)
  replace L1 := Lib.hid (L1.out.nx kk)
  replace QL := Lib.hid (QL.out.nx kk)
  replace SX := SX.nxb (kk.b b)
  clear kk
  obtain ⟨A0, A1, A2⟩ := build_ok0 RC.out hh
  rw [A0]
  have BS := Lib.hid (buildN_small L (h : Int) (by omega))
  have OWN := Lib.hid own
  clear own A0 A1 A2
  have hbw := T.lt
  obtain ⟨x0, o0, _, rfl, _, _, _⟩ := Rd.at SX (j := 0) (by omega)
  go_upto_region 4 with fail
  go_cut [7, 8, 9] from 27 to 42 (fun s7 s8 s9 wx => AgCut b L w5 s7 s8 s9 wx)
  case first =>
    have T : TK w5.drew b := T.nx (Ex.refl w5).drew
    refine wp_region_held_drew (S := Exb b w5) (by kernel_rfl) ((Exb.refl b w5).drew) (fun hHeld => ?_)
    refine wpAnyH_take (i := 0) (oi := ⟨some 27, .move (.tmp 4), 23, "law.go:124", #[], none⟩) (v := ?_) rfl (by kernel_rfl) (by kernel_rfl) (by kernel_rfl) (fun _ _ _ h => h) (Or.inl ⟨by rfl, ?hyr1x0q1⟩) (by assumption) ?restr1x0q1
    case hyr1x0q1 => intro wq hSw; (go_simp); (try with_reducible rfl)
    try simp only [Act.put, List.setIfInBounds_toArray, List.set_cons_zero, List.set_cons_succ]
    refine wpAnyH_take (i := 1) (oi := ⟨some 28, .move (.tmp 3), 25, "law.go:124", #[], none⟩) (v := ?_) rfl (by kernel_rfl) (by kernel_rfl) (by kernel_rfl) (fun _ _ _ h => h) (Or.inl ⟨by rfl, ?hyr1x1q4⟩) (by assumption) ?restr1x1q4
    case hyr1x1q4 => intro wq hSw; (go_simp); (try with_reducible rfl)
    try simp only [Act.put, List.setIfInBounds_toArray, List.set_cons_zero, List.set_cons_succ]
    refine wpAnyH_take (i := 2) (oi := ⟨some 29, .move (.tmp 4), 23, "law.go:124", #[], none⟩) (v := ?_) rfl (by kernel_rfl) (by kernel_rfl) (by kernel_rfl) (fun _ _ _ h => h) (Or.inl ⟨by rfl, ?hyr1x2q7⟩) (by assumption) ?restr1x2q7
    case hyr1x2q7 => intro wq hSw; (go_simp); (try with_reducible rfl)
    try simp only [Act.put, List.setIfInBounds_toArray, List.set_cons_zero, List.set_cons_succ]
    refine wpAnyH_take (i := 3) (oi := ⟨some 30, .call { callee := .builtin .len, args := #[.tmp 29], argTypes := #[23] }, 3, "law.go:124", #[⟨2, .data⟩], none⟩) (v := ?_) rfl (by kernel_rfl) (by kernel_rfl) (by kernel_rfl) (fun _ _ _ h => h) (Or.inl ⟨by rfl, ?hyr1x3q10⟩) (by assumption) ?restr1x3q10
    case hyr1x3q10 => intro wq hSw; (go_simp); (try with_reducible rfl)
    try simp only [Act.put, List.setIfInBounds_toArray, List.set_cons_zero, List.set_cons_succ]
    refine wpAnyH_take (i := 7) (oi := ⟨some 34, .move (.tmp 4), 23, "law.go:124", #[{ on := 18, ground := Ground.gcOnly Departure.lateStores }], none⟩) (v := ?_) rfl (by kernel_rfl) (by kernel_rfl) (by kernel_rfl) (fun _ _ _ h => h) (Or.inl ⟨by rfl, ?hyr1x7q13⟩) (by assumption) ?restr1x7q13
    case hyr1x7q13 => intro wq hSw; (go_simp); (try with_reducible rfl)
    try simp only [Act.put, List.setIfInBounds_toArray, List.set_cons_zero, List.set_cons_succ]
    refine wpAnyH_take (i := 8) (oi := ⟨some 35, .move (.tmp 3), 25, "law.go:124", #[], none⟩) (v := ?_) rfl (by kernel_rfl) (by kernel_rfl) (by kernel_rfl) (fun _ _ _ h => h) (Or.inl ⟨by rfl, ?hyr1x8q16⟩) (by assumption) ?restr1x8q16
    case hyr1x8q16 => intro wq hSw; (go_simp); (try with_reducible rfl)
    try simp only [Act.put, List.setIfInBounds_toArray, List.set_cons_zero, List.set_cons_succ]
    refine wpAnyH_take (i := 9) (oi := ⟨some 36, .move (.tmp 4), 23, "law.go:124", #[], none⟩) (v := ?_) rfl (by kernel_rfl) (by kernel_rfl) (by kernel_rfl) (fun _ _ _ h => h) (Or.inl ⟨by rfl, ?hyr1x9q19⟩) (by assumption) ?restr1x9q19
    case hyr1x9q19 => intro wq hSw; (go_simp); (try with_reducible rfl)
    try simp only [Act.put, List.setIfInBounds_toArray, List.set_cons_zero, List.set_cons_succ]
    refine wpAnyH_take (i := 10) (oi := ⟨some 37, .call { callee := .builtin .len, args := #[.tmp 36], argTypes := #[23] }, 3, "law.go:124", #[⟨9, .data⟩], none⟩) (v := ?_) rfl (by kernel_rfl) (by kernel_rfl) (by kernel_rfl) (fun _ _ _ h => h) (Or.inl ⟨by rfl, ?hyr1x10q22⟩) (by assumption) ?restr1x10q22
    case hyr1x10q22 => intro wq hSw; (go_simp); (try with_reducible rfl)
    try simp only [Act.put, List.setIfInBounds_toArray, List.set_cons_zero, List.set_cons_succ]
    refine wpAnyH_take (i := 14) (oi := ⟨some 41, .move (.tmp 3), 25, "law.go:124", #[], none⟩) (v := ?_) rfl (by kernel_rfl) (by kernel_rfl) (by kernel_rfl) (fun _ _ _ h => h) (Or.inl ⟨by rfl, ?hyr1x14q25⟩) (by assumption) ?restr1x14q25
    case hyr1x14q25 => intro wq hSw; (go_simp); (try with_reducible rfl)
    try simp only [Act.put, List.setIfInBounds_toArray, List.set_cons_zero, List.set_cons_succ]
    refine wpAnyH_ready (rs := [4, 16, 17]) (by kernel_rfl) (by simp) ?_
    refine AllReadyH.cons (o := ⟨some 31, .call { callee := .value (.func 17), args := #[.tmp 28, .tmp 30], argTypes := #[25, 3] }, 3, "law.go:124", #[⟨1, .data⟩, ⟨3, .data⟩], none⟩) rfl (fun K hK => ?_) ?_
    · go_simp
      refine (next_t (L.length : Int) _ T (by omega) (by omega)).mono ?_
      rintro e x4 ⟨r, rfl, r0, r1, T4, kk⟩
      clear T
      have T := T4
      have hHeld := hHeld.nxb kk
      (try replace B7 := B7.nxb n7 kk)
      (try replace B8 := B8.nxb n8 kk)
      obtain ⟨jy, rfl⟩ := Int.eq_ofNat_of_zero_le r0
      have hjy : jy < L.length := by omega
      obtain ⟨_, _, y, he, hx1, hy, hc1⟩ := Rd.at SX hjy
      cases he
      have yL := List.mem_of_getElem? hy
      have E1 := Lib.hid (cells_at hx1 hc1)
      clear r0 r1 kk T4 hx1 hy hc1
      refine hK.out _ _ (hHeld) (fun hHeld => ?_)
      clear hK K
      try simp only [Act.put, List.setIfInBounds_toArray, List.set_cons_zero, List.set_cons_succ]
      refine wpAnyH_take (i := 5) (oi := ⟨some 32, .indexAddr 23 (.tmp 27) (.tmp 31), 0, "law.go:124", #[⟨0, .data⟩, ⟨4, .data⟩], none⟩) (v := ?_) rfl (by kernel_rfl) (by kernel_rfl) (by kernel_rfl) (fun _ _ _ h => h) (Or.inl ⟨by rfl, ?hyr1x5q48⟩) (by assumption) ?restr1x5q48
      case hyr1x5q48 => intro wq hSw; (go_simp); (try with_reducible rfl)
      try simp only [Act.put, List.setIfInBounds_toArray, List.set_cons_zero, List.set_cons_succ]
      refine wpAnyH_take (i := 6) (oi := ⟨some 33, .load 48 (.tmp 32), 48, "law.go:124", #[⟨5, .data⟩], none⟩) (v := ?_) rfl (by kernel_rfl) (by kernel_rfl) (by kernel_rfl) (fun _ _ _ h => h) (Or.inl ⟨by rfl, ?hyr1x6q51⟩) (by assumption) ?restr1x6q51
      case hyr1x6q51 => intro wq hSw; ((obtain ⟨c0, c1, c2⟩ := E1.out _ hSw); go_simp); (try with_reducible rfl)
      try simp only [Act.put, List.setIfInBounds_toArray, List.set_cons_zero, List.set_cons_succ]
      refine wpAnyH_ready (rs := [11, 16, 17]) (by kernel_rfl) (by simp) ?_
      refine AllReadyH.cons (o := ⟨some 38, .call { callee := .value (.func 17), args := #[.tmp 35, .tmp 37], argTypes := #[25, 3] }, 3, "law.go:124", #[⟨8, .data⟩, ⟨10, .data⟩, ⟨4, .chain⟩], none⟩) rfl (fun K hK => ?_) ?_
      · go_simp
        refine (next_t (L.length : Int) _ T (by omega) (by omega)).mono ?_
        rintro e x4 ⟨r, rfl, r0, r1, T4, kk⟩
        clear T
        have T := T4
        have hHeld := hHeld.nxb kk
        (try replace B7 := B7.nxb n7 kk)
        (try replace B8 := B8.nxb n8 kk)
        obtain ⟨jz, rfl⟩ := Int.eq_ofNat_of_zero_le r0
        have hjz : jz < L.length := by omega
        obtain ⟨_, _, z, he, hx1, hy, hc1⟩ := Rd.at SX hjz
        cases he
        have zL := List.mem_of_getElem? hy
        have E2 := Lib.hid (cells_at hx1 hc1)
        clear r0 r1 kk T4 hx1 hy hc1
        refine hK.out _ _ (hHeld) (fun hHeld => ?_)
        clear hK K
        try simp only [Act.put, List.setIfInBounds_toArray, List.set_cons_zero, List.set_cons_succ]
        refine wpAnyH_take (i := 12) (oi := ⟨some 39, .indexAddr 23 (.tmp 34) (.tmp 38), 0, "law.go:124", #[⟨7, .data⟩, ⟨11, .data⟩, { on := 18, ground := Ground.gcOnly Departure.lateStores }], none⟩) (v := ?_) rfl (by kernel_rfl) (by kernel_rfl) (by kernel_rfl) (fun _ _ _ h => h) (Or.inl ⟨by rfl, ?hyr1x12q74⟩) (by assumption) ?restr1x12q74
        case hyr1x12q74 => intro wq hSw; (go_simp); (try with_reducible rfl)
        try simp only [Act.put, List.setIfInBounds_toArray, List.set_cons_zero, List.set_cons_succ]
        refine wpAnyH_take (i := 13) (oi := ⟨some 40, .load 48 (.tmp 39), 48, "law.go:124", #[⟨12, .data⟩, { on := 18, ground := Ground.gcOnly Departure.lateStores }], none⟩) (v := ?_) rfl (by kernel_rfl) (by kernel_rfl) (by kernel_rfl) (fun _ _ _ h => h) (Or.inl ⟨by rfl, ?hyr1x13q77⟩) (by assumption) ?restr1x13q77
        case hyr1x13q77 => intro wq hSw; ((obtain ⟨c0, c1, c2⟩ := E2.out _ hSw); go_simp); (try with_reducible rfl)
        try simp only [Act.put, List.setIfInBounds_toArray, List.set_cons_zero, List.set_cons_succ]
        refine wpAnyH_ready (rs := [15, 16, 17]) (by kernel_rfl) (by simp) ?_
        refine AllReadyH.cons (o := ⟨some 42, .call { callee := .value (.func 34), args := #[.tmp 41], argTypes := #[25] }, 9, "law.go:124", #[⟨14, .data⟩, ⟨11, .chain⟩], none⟩) rfl (fun K hK => ?_) ?_
        · go_simp
          refine (key_t _ T (L1.out.nxb hgl hHeld) hgl).mono ?_
          rintro e x6 ⟨KY, rfl, hKY, T6, kk⟩
          clear T
          have T := T6
          have hHeld := hHeld.nxb kk
          (try replace B7 := B7.nxb n7 kk)
          (try replace B8 := B8.nxb n8 kk)
          clear kk T6
          refine hK.out _ _ (hHeld) (fun hHeld => ?_)
          clear hK K
          try simp only [Act.put, List.setIfInBounds_toArray, List.set_cons_zero, List.set_cons_succ]
          refine wpAnyH_ready (rs := [16, 17]) (by kernel_rfl) (by simp) ?_
          refine AllReadyH.cons (o := ⟨some 7, .alloc 48, 0, "law.go:124", #[], none⟩) rfl (fun K hK => ?_) ?_
          · go_simp
            obtain ⟨g7, v7, hg7, hv7, B7, n7, T', j', z7, kn⟩ := newBlk hHeld hbw T
            (try (have hne : g8 ≠ g7 := (by have := B8.lt; omega)))
            (try replace B8 := B8.nx kn)
            (first | rw [← hg7, ← hv7] | (rw [show w5.drew.heap.size = w5.heap.size from rfl] at hg7; rw [← hg7, show ∀ o, (w5.alloc o).drew = w5.drew.alloc o from fun _ => rfl, ← hv7]))
            clear T hHeld hg7 hv7 kn
            have T := T'
            have hHeld := j'
            clear T' j'
            refine hK.out _ _ (hHeld) (fun hHeld => ?_)
            clear hK K
            try simp only [Act.put, List.setIfInBounds_toArray, List.set_cons_zero, List.set_cons_succ]
            refine wpAnyH_ready (rs := [17]) (by kernel_rfl) (by simp) ?_
            refine AllReadyH.cons (o := ⟨some 8, .alloc 48, 0, "law.go:124", #[], none⟩) rfl (fun K hK => ?_) AllReadyH.nil
            go_simp
            obtain ⟨g8, v8, hg8, hv8, B8, n8, T', j', z8, kn⟩ := newBlk hHeld hbw T
            (try (have hne : g8 ≠ g7 := (by have := B7.lt; omega)))
            (try replace B7 := B7.nx kn)
            (first | rw [← hg8, ← hv8] | (rw [show w5.drew.heap.size = w5.heap.size from rfl] at hg8; rw [← hg8, show ∀ o, (w5.alloc o).drew = w5.drew.alloc o from fun _ => rfl, ← hv8]))
            clear T hHeld hg8 hv8 kn
            have T := T'
            have hHeld := j'
            clear T' j'
            refine hK.out _ _ (hHeld) (fun hHeld => ?_)
            clear hK K
            try simp only [Act.put, List.setIfInBounds_toArray, List.set_cons_zero, List.set_cons_succ]
            refine wpAnyH_ready (rs := [18]) (by kernel_rfl) (by simp) ?_
            refine AllReadyH.cons (o := ⟨none, .store 48 (.tmp 7) (.tmp 33), 0, "law.go:124", #[⟨16, .data⟩, ⟨6, .data⟩, ⟨15, .chain⟩, ⟨0, .phase⟩, ⟨1, .phase⟩, ⟨2, .phase⟩, ⟨3, .phase⟩, ⟨4, .phase⟩, ⟨5, .phase⟩, ⟨6, .phase⟩, { on := 7, ground := Ground.textOnly Departure.lateStores }, { on := 8, ground := Ground.textOnly Departure.lateStores }, { on := 9, ground := Ground.textOnly Departure.lateStores }, { on := 10, ground := Ground.textOnly Departure.lateStoresUnsure }, { on := 11, ground := Ground.textOnly Departure.lateStoresUnsure }, { on := 12, ground := Ground.textOnly Departure.lateStores }, { on := 13, ground := Ground.textOnly Departure.lateStores }, { on := 14, ground := Ground.textOnly Departure.lateStores }, { on := 15, ground := Ground.textOnly Departure.lateStoresUnsure }, ⟨16, .phase⟩, ⟨17, .phase⟩], none⟩) rfl (fun K hK => ?_) AllReadyH.nil
            have r0 := B7.free 0
            have r1 := B7.free 1
            have r2 := B7.free 2
            have q0 := B7.cell 0 _ rfl
            have q1 := B7.cell 1 _ rfl
            have q2 := B7.cell 2 _ rfl
            have hl := B7.lt
            go_simp
            obtain ⟨v9, hv9, j', B', Bo⟩ := stoBlk B7 hHeld z7 B8 hne (.int .i64 y.id) (.string y.key) (.int .u32 y.word)
            rw [← hv9]
            clear r0 r1 r2 q0 q1 q2 hl hHeld hv9
            have hHeld := j'
            replace B7 := B'
            replace B8 := Bo
            clear j' B' Bo
            refine hK.out _ _ (hHeld) (fun hHeld => ?_)
            clear hK K
            try simp only [Act.put, List.setIfInBounds_toArray, List.set_cons_zero, List.set_cons_succ]
            refine wpAnyH_ready (rs := [19]) (by kernel_rfl) (by simp) ?_
            refine AllReadyH.cons (o := ⟨none, .store 48 (.tmp 8) (.tmp 40), 0, "law.go:124", #[⟨17, .data⟩, ⟨13, .data⟩, ⟨18, .chain⟩, ⟨0, .phase⟩, ⟨1, .phase⟩, ⟨2, .phase⟩, ⟨3, .phase⟩, ⟨4, .phase⟩, ⟨5, .phase⟩, ⟨6, .phase⟩, ⟨7, .phase⟩, ⟨8, .phase⟩, ⟨9, .phase⟩, ⟨10, .phase⟩, ⟨11, .phase⟩, ⟨12, .phase⟩, ⟨13, .phase⟩, { on := 14, ground := Ground.textOnly Departure.lateStores }, { on := 15, ground := Ground.textOnly Departure.lateStoresUnsure }, ⟨16, .phase⟩, ⟨17, .phase⟩, ⟨18, .phase⟩], none⟩) rfl (fun K hK => ?_) AllReadyH.nil
            have r0 := B8.free 0
            have r1 := B8.free 1
            have r2 := B8.free 2
            have q0 := B8.cell 0 _ rfl
            have q1 := B8.cell 1 _ rfl
            have q2 := B8.cell 2 _ rfl
            have hl := B8.lt
            go_simp
            obtain ⟨v9, hv9, j', B', Bo⟩ := stoBlk B8 hHeld z8 B7 (Ne.symm hne) (.int .i64 z.id) (.string z.key) (.int .u32 z.word)
            rw [← hv9]
            clear r0 r1 r2 q0 q1 q2 hl hHeld hv9
            have hHeld := j'
            replace B8 := B'
            replace B7 := Bo
            clear j' B' Bo
            refine hK.out _ _ (hHeld) (fun hHeld => ?_)
            clear hK K
            try simp only [Act.put, List.setIfInBounds_toArray, List.set_cons_zero, List.set_cons_succ]
            refine wpAnyH_take (i := 20) (oi := ⟨some 9, .assign (.tmp 42), 9, "law.go:124", #[⟨15, .data⟩, ⟨19, .chain⟩, ⟨0, .phase⟩, ⟨1, .phase⟩, ⟨2, .phase⟩, ⟨3, .phase⟩, ⟨4, .phase⟩, ⟨5, .phase⟩, ⟨6, .phase⟩, ⟨7, .phase⟩, ⟨8, .phase⟩, ⟨9, .phase⟩, ⟨10, .phase⟩, ⟨11, .phase⟩, ⟨12, .phase⟩, ⟨13, .phase⟩, ⟨14, .phase⟩, ⟨15, .phase⟩, ⟨16, .phase⟩, ⟨17, .phase⟩, ⟨18, .phase⟩, ⟨19, .phase⟩], none⟩) (v := ?_) rfl (by kernel_rfl) (by kernel_rfl) (by kernel_rfl) (fun _ _ _ h => h) (Or.inl ⟨by rfl, ?hyr1x20q162⟩) (by assumption) ?restr1x20q162
            case hyr1x20q162 => intro wq hSw; (go_simp); (try with_reducible rfl)
            try simp only [Act.put, List.setIfInBounds_toArray, List.set_cons_zero, List.set_cons_succ]
            refine wpAnyH_done (by kernel_rfl) ?_ _
            go_wp2_with fail
            go_meet
            exact ⟨g7, g8, y, z, KY, rfl, rfl, rfl, yL, zL, hKY, B7, B8, hHeld⟩
          refine AllReadyH.cons (o := ⟨some 8, .alloc 48, 0, "law.go:124", #[], none⟩) rfl (fun K hK => ?_) AllReadyH.nil
          · go_simp
            obtain ⟨g8, v8, hg8, hv8, B8, n8, T', j', z8, kn⟩ := newBlk hHeld hbw T
            (try (have hne : g8 ≠ g7 := (by have := B7.lt; omega)))
            (try replace B7 := B7.nx kn)
            (first | rw [← hg8, ← hv8] | (rw [show w5.drew.heap.size = w5.heap.size from rfl] at hg8; rw [← hg8, show ∀ o, (w5.alloc o).drew = w5.drew.alloc o from fun _ => rfl, ← hv8]))
            clear T hHeld hg8 hv8 kn
            have T := T'
            have hHeld := j'
            clear T' j'
            refine hK.out _ _ (hHeld) (fun hHeld => ?_)
            clear hK K
            try simp only [Act.put, List.setIfInBounds_toArray, List.set_cons_zero, List.set_cons_succ]
            refine wpAnyH_ready (rs := [16]) (by kernel_rfl) (by simp) ?_
            refine AllReadyH.cons (o := ⟨some 7, .alloc 48, 0, "law.go:124", #[], none⟩) rfl (fun K hK => ?_) AllReadyH.nil
            go_simp
            obtain ⟨g7, v7, hg7, hv7, B7, n7, T', j', z7, kn⟩ := newBlk hHeld hbw T
            (try (have hne : g8 ≠ g7 := (by have := B8.lt; omega)))
            (try replace B8 := B8.nx kn)
            (first | rw [← hg7, ← hv7] | (rw [show w5.drew.heap.size = w5.heap.size from rfl] at hg7; rw [← hg7, show ∀ o, (w5.alloc o).drew = w5.drew.alloc o from fun _ => rfl, ← hv7]))
            clear T hHeld hg7 hv7 kn
            have T := T'
            have hHeld := j'
            clear T' j'
            refine hK.out _ _ (hHeld) (fun hHeld => ?_)
            clear hK K
            try simp only [Act.put, List.setIfInBounds_toArray, List.set_cons_zero, List.set_cons_succ]
            refine wpAnyH_ready (rs := [18]) (by kernel_rfl) (by simp) ?_
            refine AllReadyH.cons (o := ⟨none, .store 48 (.tmp 7) (.tmp 33), 0, "law.go:124", #[⟨16, .data⟩, ⟨6, .data⟩, ⟨15, .chain⟩, ⟨0, .phase⟩, ⟨1, .phase⟩, ⟨2, .phase⟩, ⟨3, .phase⟩, ⟨4, .phase⟩, ⟨5, .phase⟩, ⟨6, .phase⟩, { on := 7, ground := Ground.textOnly Departure.lateStores }, { on := 8, ground := Ground.textOnly Departure.lateStores }, { on := 9, ground := Ground.textOnly Departure.lateStores }, { on := 10, ground := Ground.textOnly Departure.lateStoresUnsure }, { on := 11, ground := Ground.textOnly Departure.lateStoresUnsure }, { on := 12, ground := Ground.textOnly Departure.lateStores }, { on := 13, ground := Ground.textOnly Departure.lateStores }, { on := 14, ground := Ground.textOnly Departure.lateStores }, { on := 15, ground := Ground.textOnly Departure.lateStoresUnsure }, ⟨16, .phase⟩, ⟨17, .phase⟩], none⟩) rfl (fun K hK => ?_) AllReadyH.nil
            have r0 := B7.free 0
            have r1 := B7.free 1
            have r2 := B7.free 2
            have q0 := B7.cell 0 _ rfl
            have q1 := B7.cell 1 _ rfl
            have q2 := B7.cell 2 _ rfl
            have hl := B7.lt
            go_simp
            obtain ⟨v9, hv9, j', B', Bo⟩ := stoBlk B7 hHeld z7 B8 hne (.int .i64 y.id) (.string y.key) (.int .u32 y.word)
            rw [← hv9]
            clear r0 r1 r2 q0 q1 q2 hl hHeld hv9
            have hHeld := j'
            replace B7 := B'
            replace B8 := Bo
            clear j' B' Bo
            refine hK.out _ _ (hHeld) (fun hHeld => ?_)
            clear hK K
            try simp only [Act.put, List.setIfInBounds_toArray, List.set_cons_zero, List.set_cons_succ]
            refine wpAnyH_ready (rs := [19]) (by kernel_rfl) (by simp) ?_
            refine AllReadyH.cons (o := ⟨none, .store 48 (.tmp 8) (.tmp 40), 0, "law.go:124", #[⟨17, .data⟩, ⟨13, .data⟩, ⟨18, .chain⟩, ⟨0, .phase⟩, ⟨1, .phase⟩, ⟨2, .phase⟩, ⟨3, .phase⟩, ⟨4, .phase⟩, ⟨5, .phase⟩, ⟨6, .phase⟩, ⟨7, .phase⟩, ⟨8, .phase⟩, ⟨9, .phase⟩, ⟨10, .phase⟩, ⟨11, .phase⟩, ⟨12, .phase⟩, ⟨13, .phase⟩, { on := 14, ground := Ground.textOnly Departure.lateStores }, { on := 15, ground := Ground.textOnly Departure.lateStoresUnsure }, ⟨16, .phase⟩, ⟨17, .phase⟩, ⟨18, .phase⟩], none⟩) rfl (fun K hK => ?_) AllReadyH.nil
            have r0 := B8.free 0
            have r1 := B8.free 1
            have r2 := B8.free 2
            have q0 := B8.cell 0 _ rfl
            have q1 := B8.cell 1 _ rfl
            have q2 := B8.cell 2 _ rfl
            have hl := B8.lt
            go_simp
            obtain ⟨v9, hv9, j', B', Bo⟩ := stoBlk B8 hHeld z8 B7 (Ne.symm hne) (.int .i64 z.id) (.string z.key) (.int .u32 z.word)
            rw [← hv9]
            clear r0 r1 r2 q0 q1 q2 hl hHeld hv9
            have hHeld := j'
            replace B8 := B'
            replace B7 := Bo
            clear j' B' Bo
            refine hK.out _ _ (hHeld) (fun hHeld => ?_)
            clear hK K
            try simp only [Act.put, List.setIfInBounds_toArray, List.set_cons_zero, List.set_cons_succ]
            refine wpAnyH_take (i := 20) (oi := ⟨some 9, .assign (.tmp 42), 9, "law.go:124", #[⟨15, .data⟩, ⟨19, .chain⟩, ⟨0, .phase⟩, ⟨1, .phase⟩, ⟨2, .phase⟩, ⟨3, .phase⟩, ⟨4, .phase⟩, ⟨5, .phase⟩, ⟨6, .phase⟩, ⟨7, .phase⟩, ⟨8, .phase⟩, ⟨9, .phase⟩, ⟨10, .phase⟩, ⟨11, .phase⟩, ⟨12, .phase⟩, ⟨13, .phase⟩, ⟨14, .phase⟩, ⟨15, .phase⟩, ⟨16, .phase⟩, ⟨17, .phase⟩, ⟨18, .phase⟩, ⟨19, .phase⟩], none⟩) (v := ?_) rfl (by kernel_rfl) (by kernel_rfl) (by kernel_rfl) (fun _ _ _ h => h) (Or.inl ⟨by rfl, ?hyr1x20q234⟩) (by assumption) ?restr1x20q234
            case hyr1x20q234 => intro wq hSw; (go_simp); (try with_reducible rfl)
            try simp only [Act.put, List.setIfInBounds_toArray, List.set_cons_zero, List.set_cons_succ]
            refine wpAnyH_done (by kernel_rfl) ?_ _
            go_wp2_with fail
            go_meet
            exact ⟨g7, g8, y, z, KY, rfl, rfl, rfl, yL, zL, hKY, B7, B8, hHeld⟩
        refine AllReadyH.cons (o := ⟨some 7, .alloc 48, 0, "law.go:124", #[], none⟩) rfl (fun K hK => ?_) ?_
        · go_simp
          obtain ⟨g7, v7, hg7, hv7, B7, n7, T', j', z7, kn⟩ := newBlk hHeld hbw T
          (try (have hne : g8 ≠ g7 := (by have := B8.lt; omega)))
          (try replace B8 := B8.nx kn)
          (first | rw [← hg7, ← hv7] | (rw [show w5.drew.heap.size = w5.heap.size from rfl] at hg7; rw [← hg7, show ∀ o, (w5.alloc o).drew = w5.drew.alloc o from fun _ => rfl, ← hv7]))
          clear T hHeld hg7 hv7 kn
          have T := T'
          have hHeld := j'
          clear T' j'
          refine hK.out _ _ (hHeld) (fun hHeld => ?_)
          clear hK K
          try simp only [Act.put, List.setIfInBounds_toArray, List.set_cons_zero, List.set_cons_succ]
          refine wpAnyH_ready (rs := [15, 17]) (by kernel_rfl) (by simp) ?_
          refine AllReadyH.cons (o := ⟨some 42, .call { callee := .value (.func 34), args := #[.tmp 41], argTypes := #[25] }, 9, "law.go:124", #[⟨14, .data⟩, ⟨11, .chain⟩], none⟩) rfl (fun K hK => ?_) ?_
          · go_simp
            refine (key_t _ T (L1.out.nxb hgl hHeld) hgl).mono ?_
            rintro e x6 ⟨KY, rfl, hKY, T6, kk⟩
            clear T
            have T := T6
            have hHeld := hHeld.nxb kk
            (try replace B7 := B7.nxb n7 kk)
            (try replace B8 := B8.nxb n8 kk)
            clear kk T6
            refine hK.out _ _ (hHeld) (fun hHeld => ?_)
            clear hK K
            try simp only [Act.put, List.setIfInBounds_toArray, List.set_cons_zero, List.set_cons_succ]
            refine wpAnyH_ready (rs := [17]) (by kernel_rfl) (by simp) ?_
            refine AllReadyH.cons (o := ⟨some 8, .alloc 48, 0, "law.go:124", #[], none⟩) rfl (fun K hK => ?_) AllReadyH.nil
            go_simp
            obtain ⟨g8, v8, hg8, hv8, B8, n8, T', j', z8, kn⟩ := newBlk hHeld hbw T
            (try (have hne : g8 ≠ g7 := (by have := B7.lt; omega)))
            (try replace B7 := B7.nx kn)
            (first | rw [← hg8, ← hv8] | (rw [show w5.drew.heap.size = w5.heap.size from rfl] at hg8; rw [← hg8, show ∀ o, (w5.alloc o).drew = w5.drew.alloc o from fun _ => rfl, ← hv8]))
            clear T hHeld hg8 hv8 kn
            have T := T'
            have hHeld := j'
            clear T' j'
            refine hK.out _ _ (hHeld) (fun hHeld => ?_)
            clear hK K
            try simp only [Act.put, List.setIfInBounds_toArray, List.set_cons_zero, List.set_cons_succ]
            refine wpAnyH_ready (rs := [18]) (by kernel_rfl) (by simp) ?_
            refine AllReadyH.cons (o := ⟨none, .store 48 (.tmp 7) (.tmp 33), 0, "law.go:124", #[⟨16, .data⟩, ⟨6, .data⟩, ⟨15, .chain⟩, ⟨0, .phase⟩, ⟨1, .phase⟩, ⟨2, .phase⟩, ⟨3, .phase⟩, ⟨4, .phase⟩, ⟨5, .phase⟩, ⟨6, .phase⟩, { on := 7, ground := Ground.textOnly Departure.lateStores }, { on := 8, ground := Ground.textOnly Departure.lateStores }, { on := 9, ground := Ground.textOnly Departure.lateStores }, { on := 10, ground := Ground.textOnly Departure.lateStoresUnsure }, { on := 11, ground := Ground.textOnly Departure.lateStoresUnsure }, { on := 12, ground := Ground.textOnly Departure.lateStores }, { on := 13, ground := Ground.textOnly Departure.lateStores }, { on := 14, ground := Ground.textOnly Departure.lateStores }, { on := 15, ground := Ground.textOnly Departure.lateStoresUnsure }, ⟨16, .phase⟩, ⟨17, .phase⟩], none⟩) rfl (fun K hK => ?_) AllReadyH.nil
            have r0 := B7.free 0
            have r1 := B7.free 1
            have r2 := B7.free 2
            have q0 := B7.cell 0 _ rfl
            have q1 := B7.cell 1 _ rfl
            have q2 := B7.cell 2 _ rfl
            have hl := B7.lt
            go_simp
            obtain ⟨v9, hv9, j', B', Bo⟩ := stoBlk B7 hHeld z7 B8 hne (.int .i64 y.id) (.string y.key) (.int .u32 y.word)
            rw [← hv9]
            clear r0 r1 r2 q0 q1 q2 hl hHeld hv9
            have hHeld := j'
            replace B7 := B'
            replace B8 := Bo
            clear j' B' Bo
            refine hK.out _ _ (hHeld) (fun hHeld => ?_)
            clear hK K
            try simp only [Act.put, List.setIfInBounds_toArray, List.set_cons_zero, List.set_cons_succ]
            refine wpAnyH_ready (rs := [19]) (by kernel_rfl) (by simp) ?_
            refine AllReadyH.cons (o := ⟨none, .store 48 (.tmp 8) (.tmp 40), 0, "law.go:124", #[⟨17, .data⟩, ⟨13, .data⟩, ⟨18, .chain⟩, ⟨0, .phase⟩, ⟨1, .phase⟩, ⟨2, .phase⟩, ⟨3, .phase⟩, ⟨4, .phase⟩, ⟨5, .phase⟩, ⟨6, .phase⟩, ⟨7, .phase⟩, ⟨8, .phase⟩, ⟨9, .phase⟩, ⟨10, .phase⟩, ⟨11, .phase⟩, ⟨12, .phase⟩, ⟨13, .phase⟩, { on := 14, ground := Ground.textOnly Departure.lateStores }, { on := 15, ground := Ground.textOnly Departure.lateStoresUnsure }, ⟨16, .phase⟩, ⟨17, .phase⟩, ⟨18, .phase⟩], none⟩) rfl (fun K hK => ?_) AllReadyH.nil
            have r0 := B8.free 0
            have r1 := B8.free 1
            have r2 := B8.free 2
            have q0 := B8.cell 0 _ rfl
            have q1 := B8.cell 1 _ rfl
            have q2 := B8.cell 2 _ rfl
            have hl := B8.lt
            go_simp
            obtain ⟨v9, hv9, j', B', Bo⟩ := stoBlk B8 hHeld z8 B7 (Ne.symm hne) (.int .i64 z.id) (.string z.key) (.int .u32 z.word)
            rw [← hv9]
            clear r0 r1 r2 q0 q1 q2 hl hHeld hv9
            have hHeld := j'
            replace B8 := B'
            replace B7 := Bo
            clear j' B' Bo
            refine hK.out _ _ (hHeld) (fun hHeld => ?_)
            clear hK K
            try simp only [Act.put, List.setIfInBounds_toArray, List.set_cons_zero, List.set_cons_succ]
            refine wpAnyH_take (i := 20) (oi := ⟨some 9, .assign (.tmp 42), 9, "law.go:124", #[⟨15, .data⟩, ⟨19, .chain⟩, ⟨0, .phase⟩, ⟨1, .phase⟩, ⟨2, .phase⟩, ⟨3, .phase⟩, ⟨4, .phase⟩, ⟨5, .phase⟩, ⟨6, .phase⟩, ⟨7, .phase⟩, ⟨8, .phase⟩, ⟨9, .phase⟩, ⟨10, .phase⟩, ⟨11, .phase⟩, ⟨12, .phase⟩, ⟨13, .phase⟩, ⟨14, .phase⟩, ⟨15, .phase⟩, ⟨16, .phase⟩, ⟨17, .phase⟩, ⟨18, .phase⟩, ⟨19, .phase⟩], none⟩) (v := ?_) rfl (by kernel_rfl) (by kernel_rfl) (by kernel_rfl) (fun _ _ _ h => h) (Or.inl ⟨by rfl, ?hyr1x20q320⟩) (by assumption) ?restr1x20q320
            case hyr1x20q320 => intro wq hSw; (go_simp); (try with_reducible rfl)
            try simp only [Act.put, List.setIfInBounds_toArray, List.set_cons_zero, List.set_cons_succ]
            refine wpAnyH_done (by kernel_rfl) ?_ _
            go_wp2_with fail
            go_meet
            exact ⟨g7, g8, y, z, KY, rfl, rfl, rfl, yL, zL, hKY, B7, B8, hHeld⟩
          refine AllReadyH.cons (o := ⟨some 8, .alloc 48, 0, "law.go:124", #[], none⟩) rfl (fun K hK => ?_) AllReadyH.nil
          · go_simp
            obtain ⟨g8, v8, hg8, hv8, B8, n8, T', j', z8, kn⟩ := newBlk hHeld hbw T
            (try (have hne : g8 ≠ g7 := (by have := B7.lt; omega)))
            (try replace B7 := B7.nx kn)
            (first | rw [← hg8, ← hv8] | (rw [show w5.drew.heap.size = w5.heap.size from rfl] at hg8; rw [← hg8, show ∀ o, (w5.alloc o).drew = w5.drew.alloc o from fun _ => rfl, ← hv8]))
            clear T hHeld hg8 hv8 kn
            have T := T'
            have hHeld := j'
            clear T' j'
            refine hK.out _ _ (hHeld) (fun hHeld => ?_)
            clear hK K
            try simp only [Act.put, List.setIfInBounds_toArray, List.set_cons_zero, List.set_cons_succ]
            refine wpAnyH_ready (rs := [15]) (by kernel_rfl) (by simp) ?_
            refine AllReadyH.cons (o := ⟨some 42, .call { callee := .value (.func 34), args := #[.tmp 41], argTypes := #[25] }, 9, "law.go:124", #[⟨14, .data⟩, ⟨11, .chain⟩], none⟩) rfl (fun K hK => ?_) AllReadyH.nil
            go_simp
            refine (key_t _ T (L1.out.nxb hgl hHeld) hgl).mono ?_
            rintro e x6 ⟨KY, rfl, hKY, T6, kk⟩
            clear T
            have T := T6
            have hHeld := hHeld.nxb kk
            (try replace B7 := B7.nxb n7 kk)
            (try replace B8 := B8.nxb n8 kk)
            clear kk T6
            refine hK.out _ _ (hHeld) (fun hHeld => ?_)
            clear hK K
            try simp only [Act.put, List.setIfInBounds_toArray, List.set_cons_zero, List.set_cons_succ]
            refine wpAnyH_ready (rs := [18]) (by kernel_rfl) (by simp) ?_
            refine AllReadyH.cons (o := ⟨none, .store 48 (.tmp 7) (.tmp 33), 0, "law.go:124", #[⟨16, .data⟩, ⟨6, .data⟩, ⟨15, .chain⟩, ⟨0, .phase⟩, ⟨1, .phase⟩, ⟨2, .phase⟩, ⟨3, .phase⟩, ⟨4, .phase⟩, ⟨5, .phase⟩, ⟨6, .phase⟩, { on := 7, ground := Ground.textOnly Departure.lateStores }, { on := 8, ground := Ground.textOnly Departure.lateStores }, { on := 9, ground := Ground.textOnly Departure.lateStores }, { on := 10, ground := Ground.textOnly Departure.lateStoresUnsure }, { on := 11, ground := Ground.textOnly Departure.lateStoresUnsure }, { on := 12, ground := Ground.textOnly Departure.lateStores }, { on := 13, ground := Ground.textOnly Departure.lateStores }, { on := 14, ground := Ground.textOnly Departure.lateStores }, { on := 15, ground := Ground.textOnly Departure.lateStoresUnsure }, ⟨16, .phase⟩, ⟨17, .phase⟩], none⟩) rfl (fun K hK => ?_) AllReadyH.nil
            have r0 := B7.free 0
            have r1 := B7.free 1
            have r2 := B7.free 2
            have q0 := B7.cell 0 _ rfl
            have q1 := B7.cell 1 _ rfl
            have q2 := B7.cell 2 _ rfl
            have hl := B7.lt
            go_simp
            obtain ⟨v9, hv9, j', B', Bo⟩ := stoBlk B7 hHeld z7 B8 hne (.int .i64 y.id) (.string y.key) (.int .u32 y.word)
            rw [← hv9]
            clear r0 r1 r2 q0 q1 q2 hl hHeld hv9
            have hHeld := j'
            replace B7 := B'
            replace B8 := Bo
            clear j' B' Bo
            refine hK.out _ _ (hHeld) (fun hHeld => ?_)
            clear hK K
            try simp only [Act.put, List.setIfInBounds_toArray, List.set_cons_zero, List.set_cons_succ]
            refine wpAnyH_ready (rs := [19]) (by kernel_rfl) (by simp) ?_
            refine AllReadyH.cons (o := ⟨none, .store 48 (.tmp 8) (.tmp 40), 0, "law.go:124", #[⟨17, .data⟩, ⟨13, .data⟩, ⟨18, .chain⟩, ⟨0, .phase⟩, ⟨1, .phase⟩, ⟨2, .phase⟩, ⟨3, .phase⟩, ⟨4, .phase⟩, ⟨5, .phase⟩, ⟨6, .phase⟩, ⟨7, .phase⟩, ⟨8, .phase⟩, ⟨9, .phase⟩, ⟨10, .phase⟩, ⟨11, .phase⟩, ⟨12, .phase⟩, ⟨13, .phase⟩, { on := 14, ground := Ground.textOnly Departure.lateStores }, { on := 15, ground := Ground.textOnly Departure.lateStoresUnsure }, ⟨16, .phase⟩, ⟨17, .phase⟩, ⟨18, .phase⟩], none⟩) rfl (fun K hK => ?_) AllReadyH.nil
            have r0 := B8.free 0
            have r1 := B8.free 1
            have r2 := B8.free 2
            have q0 := B8.cell 0 _ rfl
            have q1 := B8.cell 1 _ rfl
            have q2 := B8.cell 2 _ rfl
            have hl := B8.lt
            go_simp
            obtain ⟨v9, hv9, j', B', Bo⟩ := stoBlk B8 hHeld z8 B7 (Ne.symm hne) (.int .i64 z.id) (.string z.key) (.int .u32 z.word)
            rw [← hv9]
            clear r0 r1 r2 q0 q1 q2 hl hHeld hv9
            have hHeld := j'
            replace B8 := B'
            replace B7 := Bo
            clear j' B' Bo
            refine hK.out _ _ (hHeld) (fun hHeld => ?_)
            clear hK K
            try simp only [Act.put, List.setIfInBounds_toArray, List.set_cons_zero, List.set_cons_succ]
            refine wpAnyH_take (i := 20) (oi := ⟨some 9, .assign (.tmp 42), 9, "law.go:124", #[⟨15, .data⟩, ⟨19, .chain⟩, ⟨0, .phase⟩, ⟨1, .phase⟩, ⟨2, .phase⟩, ⟨3, .phase⟩, ⟨4, .phase⟩, ⟨5, .phase⟩, ⟨6, .phase⟩, ⟨7, .phase⟩, ⟨8, .phase⟩, ⟨9, .phase⟩, ⟨10, .phase⟩, ⟨11, .phase⟩, ⟨12, .phase⟩, ⟨13, .phase⟩, ⟨14, .phase⟩, ⟨15, .phase⟩, ⟨16, .phase⟩, ⟨17, .phase⟩, ⟨18, .phase⟩, ⟨19, .phase⟩], none⟩) (v := ?_) rfl (by kernel_rfl) (by kernel_rfl) (by kernel_rfl) (fun _ _ _ h => h) (Or.inl ⟨by rfl, ?hyr1x20q392⟩) (by assumption) ?restr1x20q392
            case hyr1x20q392 => intro wq hSw; (go_simp); (try with_reducible rfl)
            try simp only [Act.put, List.setIfInBounds_toArray, List.set_cons_zero, List.set_cons_succ]
            refine wpAnyH_done (by kernel_rfl) ?_ _
            go_wp2_with fail
            go_meet
            exact ⟨g7, g8, y, z, KY, rfl, rfl, rfl, yL, zL, hKY, B7, B8, hHeld⟩
        refine AllReadyH.cons (o := ⟨some 8, .alloc 48, 0, "law.go:124", #[], none⟩) rfl (fun K hK => ?_) AllReadyH.nil
        · go_simp
          obtain ⟨g8, v8, hg8, hv8, B8, n8, T', j', z8, kn⟩ := newBlk hHeld hbw T
          (try (have hne : g8 ≠ g7 := (by have := B7.lt; omega)))
          (try replace B7 := B7.nx kn)
          (first | rw [← hg8, ← hv8] | (rw [show w5.drew.heap.size = w5.heap.size from rfl] at hg8; rw [← hg8, show ∀ o, (w5.alloc o).drew = w5.drew.alloc o from fun _ => rfl, ← hv8]))
          clear T hHeld hg8 hv8 kn
          have T := T'
          have hHeld := j'
          clear T' j'
          refine hK.out _ _ (hHeld) (fun hHeld => ?_)
          clear hK K
          try simp only [Act.put, List.setIfInBounds_toArray, List.set_cons_zero, List.set_cons_succ]
          refine wpAnyH_ready (rs := [15, 16]) (by kernel_rfl) (by simp) ?_
          refine AllReadyH.cons (o := ⟨some 42, .call { callee := .value (.func 34), args := #[.tmp 41], argTypes := #[25] }, 9, "law.go:124", #[⟨14, .data⟩, ⟨11, .chain⟩], none⟩) rfl (fun K hK => ?_) ?_
          · go_simp
            refine (key_t _ T (L1.out.nxb hgl hHeld) hgl).mono ?_
            rintro e x6 ⟨KY, rfl, hKY, T6, kk⟩
            clear T
            have T := T6
            have hHeld := hHeld.nxb kk
            (try replace B7 := B7.nxb n7 kk)
            (try replace B8 := B8.nxb n8 kk)
            clear kk T6
            refine hK.out _ _ (hHeld) (fun hHeld => ?_)
            clear hK K
            try simp only [Act.put, List.setIfInBounds_toArray, List.set_cons_zero, List.set_cons_succ]
            refine wpAnyH_ready (rs := [16]) (by kernel_rfl) (by simp) ?_
            refine AllReadyH.cons (o := ⟨some 7, .alloc 48, 0, "law.go:124", #[], none⟩) rfl (fun K hK => ?_) AllReadyH.nil
            go_simp
            obtain ⟨g7, v7, hg7, hv7, B7, n7, T', j', z7, kn⟩ := newBlk hHeld hbw T
            (try (have hne : g8 ≠ g7 := (by have := B8.lt; omega)))
            (try replace B8 := B8.nx kn)
            (first | rw [← hg7, ← hv7] | (rw [show w5.drew.heap.size = w5.heap.size from rfl] at hg7; rw [← hg7, show ∀ o, (w5.alloc o).drew = w5.drew.alloc o from fun _ => rfl, ← hv7]))
            clear T hHeld hg7 hv7 kn
            have T := T'
            have hHeld := j'
            clear T' j'
            refine hK.out _ _ (hHeld) (fun hHeld => ?_)
            clear hK K
            try simp only [Act.put, List.setIfInBounds_toArray, List.set_cons_zero, List.set_cons_succ]
            refine wpAnyH_ready (rs := [18]) (by kernel_rfl) (by simp) ?_
            refine AllReadyH.cons (o := ⟨none, .store 48 (.tmp 7) (.tmp 33), 0, "law.go:124", #[⟨16, .data⟩, ⟨6, .data⟩, ⟨15, .chain⟩, ⟨0, .phase⟩, ⟨1, .phase⟩, ⟨2, .phase⟩, ⟨3, .phase⟩, ⟨4, .phase⟩, ⟨5, .phase⟩, ⟨6, .phase⟩, { on := 7, ground := Ground.textOnly Departure.lateStores }, { on := 8, ground := Ground.textOnly Departure.lateStores }, { on := 9, ground := Ground.textOnly Departure.lateStores }, { on := 10, ground := Ground.textOnly Departure.lateStoresUnsure }, { on := 11, ground := Ground.textOnly Departure.lateStoresUnsure }, { on := 12, ground := Ground.textOnly Departure.lateStores }, { on := 13, ground := Ground.textOnly Departure.lateStores }, { on := 14, ground := Ground.textOnly Departure.lateStores }, { on := 15, ground := Ground.textOnly Departure.lateStoresUnsure }, ⟨16, .phase⟩, ⟨17, .phase⟩], none⟩) rfl (fun K hK => ?_) AllReadyH.nil
            have r0 := B7.free 0
            have r1 := B7.free 1
            have r2 := B7.free 2
            have q0 := B7.cell 0 _ rfl
            have q1 := B7.cell 1 _ rfl
            have q2 := B7.cell 2 _ rfl
            have hl := B7.lt
            go_simp
            obtain ⟨v9, hv9, j', B', Bo⟩ := stoBlk B7 hHeld z7 B8 hne (.int .i64 y.id) (.string y.key) (.int .u32 y.word)
            rw [← hv9]
            clear r0 r1 r2 q0 q1 q2 hl hHeld hv9
            have hHeld := j'
            replace B7 := B'
            replace B8 := Bo
            clear j' B' Bo
            refine hK.out _ _ (hHeld) (fun hHeld => ?_)
            clear hK K
            try simp only [Act.put, List.setIfInBounds_toArray, List.set_cons_zero, List.set_cons_succ]
            refine wpAnyH_ready (rs := [19]) (by kernel_rfl) (by simp) ?_
            refine AllReadyH.cons (o := ⟨none, .store 48 (.tmp 8) (.tmp 40), 0, "law.go:124", #[⟨17, .data⟩, ⟨13, .data⟩, ⟨18, .chain⟩, ⟨0, .phase⟩, ⟨1, .phase⟩, ⟨2, .phase⟩, ⟨3, .phase⟩, ⟨4, .phase⟩, ⟨5, .phase⟩, ⟨6, .phase⟩, ⟨7, .phase⟩, ⟨8, .phase⟩, ⟨9, .phase⟩, ⟨10, .phase⟩, ⟨11, .phase⟩, ⟨12, .phase⟩, ⟨13, .phase⟩, { on := 14, ground := Ground.textOnly Departure.lateStores }, { on := 15, ground := Ground.textOnly Departure.lateStoresUnsure }, ⟨16, .phase⟩, ⟨17, .phase⟩, ⟨18, .phase⟩], none⟩) rfl (fun K hK => ?_) AllReadyH.nil
            have r0 := B8.free 0
            have r1 := B8.free 1
            have r2 := B8.free 2
            have q0 := B8.cell 0 _ rfl
            have q1 := B8.cell 1 _ rfl
            have q2 := B8.cell 2 _ rfl
            have hl := B8.lt
            go_simp
            obtain ⟨v9, hv9, j', B', Bo⟩ := stoBlk B8 hHeld z8 B7 (Ne.symm hne) (.int .i64 z.id) (.string z.key) (.int .u32 z.word)
            rw [← hv9]
            clear r0 r1 r2 q0 q1 q2 hl hHeld hv9
            have hHeld := j'
            replace B8 := B'
            replace B7 := Bo
            clear j' B' Bo
            refine hK.out _ _ (hHeld) (fun hHeld => ?_)
            clear hK K
            try simp only [Act.put, List.setIfInBounds_toArray, List.set_cons_zero, List.set_cons_succ]
            refine wpAnyH_take (i := 20) (oi := ⟨some 9, .assign (.tmp 42), 9, "law.go:124", #[⟨15, .data⟩, ⟨19, .chain⟩, ⟨0, .phase⟩, ⟨1, .phase⟩, ⟨2, .phase⟩, ⟨3, .phase⟩, ⟨4, .phase⟩, ⟨5, .phase⟩, ⟨6, .phase⟩, ⟨7, .phase⟩, ⟨8, .phase⟩, ⟨9, .phase⟩, ⟨10, .phase⟩, ⟨11, .phase⟩, ⟨12, .phase⟩, ⟨13, .phase⟩, ⟨14, .phase⟩, ⟨15, .phase⟩, ⟨16, .phase⟩, ⟨17, .phase⟩, ⟨18, .phase⟩, ⟨19, .phase⟩], none⟩) (v := ?_) rfl (by kernel_rfl) (by kernel_rfl) (by kernel_rfl) (fun _ _ _ h => h) (Or.inl ⟨by rfl, ?hyr1x20q478⟩) (by assumption) ?restr1x20q478
            case hyr1x20q478 => intro wq hSw; (go_simp); (try with_reducible rfl)
            try simp only [Act.put, List.setIfInBounds_toArray, List.set_cons_zero, List.set_cons_succ]
            refine wpAnyH_done (by kernel_rfl) ?_ _
            go_wp2_with fail
            go_meet
            exact ⟨g7, g8, y, z, KY, rfl, rfl, rfl, yL, zL, hKY, B7, B8, hHeld⟩
          refine AllReadyH.cons (o := ⟨some 7, .alloc 48, 0, "law.go:124", #[], none⟩) rfl (fun K hK => ?_) AllReadyH.nil
          · go_simp
            obtain ⟨g7, v7, hg7, hv7, B7, n7, T', j', z7, kn⟩ := newBlk hHeld hbw T
            (try (have hne : g8 ≠ g7 := (by have := B8.lt; omega)))
            (try replace B8 := B8.nx kn)
            (first | rw [← hg7, ← hv7] | (rw [show w5.drew.heap.size = w5.heap.size from rfl] at hg7; rw [← hg7, show ∀ o, (w5.alloc o).drew = w5.drew.alloc o from fun _ => rfl, ← hv7]))
            clear T hHeld hg7 hv7 kn
            have T := T'
            have hHeld := j'
            clear T' j'
            refine hK.out _ _ (hHeld) (fun hHeld => ?_)
            clear hK K
            try simp only [Act.put, List.setIfInBounds_toArray, List.set_cons_zero, List.set_cons_succ]
            refine wpAnyH_ready (rs := [15]) (by kernel_rfl) (by simp) ?_
            refine AllReadyH.cons (o := ⟨some 42, .call { callee := .value (.func 34), args := #[.tmp 41], argTypes := #[25] }, 9, "law.go:124", #[⟨14, .data⟩, ⟨11, .chain⟩], none⟩) rfl (fun K hK => ?_) AllReadyH.nil
            go_simp
            refine (key_t _ T (L1.out.nxb hgl hHeld) hgl).mono ?_
            rintro e x6 ⟨KY, rfl, hKY, T6, kk⟩
            clear T
            have T := T6
            have hHeld := hHeld.nxb kk
            (try replace B7 := B7.nxb n7 kk)
            (try replace B8 := B8.nxb n8 kk)
            clear kk T6
            refine hK.out _ _ (hHeld) (fun hHeld => ?_)
            clear hK K
            try simp only [Act.put, List.setIfInBounds_toArray, List.set_cons_zero, List.set_cons_succ]
            refine wpAnyH_ready (rs := [18]) (by kernel_rfl) (by simp) ?_
            refine AllReadyH.cons (o := ⟨none, .store 48 (.tmp 7) (.tmp 33), 0, "law.go:124", #[⟨16, .data⟩, ⟨6, .data⟩, ⟨15, .chain⟩, ⟨0, .phase⟩, ⟨1, .phase⟩, ⟨2, .phase⟩, ⟨3, .phase⟩, ⟨4, .phase⟩, ⟨5, .phase⟩, ⟨6, .phase⟩, { on := 7, ground := Ground.textOnly Departure.lateStores }, { on := 8, ground := Ground.textOnly Departure.lateStores }, { on := 9, ground := Ground.textOnly Departure.lateStores }, { on := 10, ground := Ground.textOnly Departure.lateStoresUnsure }, { on := 11, ground := Ground.textOnly Departure.lateStoresUnsure }, { on := 12, ground := Ground.textOnly Departure.lateStores }, { on := 13, ground := Ground.textOnly Departure.lateStores }, { on := 14, ground := Ground.textOnly Departure.lateStores }, { on := 15, ground := Ground.textOnly Departure.lateStoresUnsure }, ⟨16, .phase⟩, ⟨17, .phase⟩], none⟩) rfl (fun K hK => ?_) AllReadyH.nil
            have r0 := B7.free 0
            have r1 := B7.free 1
            have r2 := B7.free 2
            have q0 := B7.cell 0 _ rfl
            have q1 := B7.cell 1 _ rfl
            have q2 := B7.cell 2 _ rfl
            have hl := B7.lt
            go_simp
            obtain ⟨v9, hv9, j', B', Bo⟩ := stoBlk B7 hHeld z7 B8 hne (.int .i64 y.id) (.string y.key) (.int .u32 y.word)
            rw [← hv9]
            clear r0 r1 r2 q0 q1 q2 hl hHeld hv9
            have hHeld := j'
            replace B7 := B'
            replace B8 := Bo
            clear j' B' Bo
            refine hK.out _ _ (hHeld) (fun hHeld => ?_)
            clear hK K
            try simp only [Act.put, List.setIfInBounds_toArray, List.set_cons_zero, List.set_cons_succ]
            refine wpAnyH_ready (rs := [19]) (by kernel_rfl) (by simp) ?_
            refine AllReadyH.cons (o := ⟨none, .store 48 (.tmp 8) (.tmp 40), 0, "law.go:124", #[⟨17, .data⟩, ⟨13, .data⟩, ⟨18, .chain⟩, ⟨0, .phase⟩, ⟨1, .phase⟩, ⟨2, .phase⟩, ⟨3, .phase⟩, ⟨4, .phase⟩, ⟨5, .phase⟩, ⟨6, .phase⟩, ⟨7, .phase⟩, ⟨8, .phase⟩, ⟨9, .phase⟩, ⟨10, .phase⟩, ⟨11, .phase⟩, ⟨12, .phase⟩, ⟨13, .phase⟩, { on := 14, ground := Ground.textOnly Departure.lateStores }, { on := 15, ground := Ground.textOnly Departure.lateStoresUnsure }, ⟨16, .phase⟩, ⟨17, .phase⟩, ⟨18, .phase⟩], none⟩) rfl (fun K hK => ?_) AllReadyH.nil
            have r0 := B8.free 0
            have r1 := B8.free 1
            have r2 := B8.free 2
            have q0 := B8.cell 0 _ rfl
            have q1 := B8.cell 1 _ rfl
            have q2 := B8.cell 2 _ rfl
            have hl := B8.lt
            go_simp
            obtain ⟨v9, hv9, j', B', Bo⟩ := stoBlk B8 hHeld z8 B7 (Ne.symm hne) (.int .i64 z.id) (.string z.key) (.int .u32 z.word)
            rw [← hv9]
            clear r0 r1 r2 q0 q1 q2 hl hHeld hv9
            have hHeld := j'
            replace B8 := B'
            replace B7 := Bo
            clear j' B' Bo
            refine hK.out _ _ (hHeld) (fun hHeld => ?_)
            clear hK K
            try simp only [Act.put, List.setIfInBounds_toArray, List.set_cons_zero, List.set_cons_succ]
            refine wpAnyH_take (i := 20) (oi := ⟨some 9, .assign (.tmp 42), 9, "law.go:124", #[⟨15, .data⟩, ⟨19, .chain⟩, ⟨0, .phase⟩, ⟨1, .phase⟩, ⟨2, .phase⟩, ⟨3, .phase⟩, ⟨4, .phase⟩, ⟨5, .phase⟩, ⟨6, .phase⟩, ⟨7, .phase⟩, ⟨8, .phase⟩, ⟨9, .phase⟩, ⟨10, .phase⟩, ⟨11, .phase⟩, ⟨12, .phase⟩, ⟨13, .phase⟩, ⟨14, .phase⟩, ⟨15, .phase⟩, ⟨16, .phase⟩, ⟨17, .phase⟩, ⟨18, .phase⟩, ⟨19, .phase⟩], none⟩) (v := ?_) rfl (by kernel_rfl) (by kernel_rfl) (by kernel_rfl) (fun _ _ _ h => h) (Or.inl ⟨by rfl, ?hyr1x20q550⟩) (by assumption) ?restr1x20q550
            case hyr1x20q550 => intro wq hSw; (go_simp); (try with_reducible rfl)
            try simp only [Act.put, List.setIfInBounds_toArray, List.set_cons_zero, List.set_cons_succ]
            refine wpAnyH_done (by kernel_rfl) ?_ _
            go_wp2_with fail
            go_meet
            exact ⟨g7, g8, y, z, KY, rfl, rfl, rfl, yL, zL, hKY, B7, B8, hHeld⟩
      refine AllReadyH.cons (o := ⟨some 7, .alloc 48, 0, "law.go:124", #[], none⟩) rfl (fun K hK => ?_) ?_
      · go_simp
        obtain ⟨g7, v7, hg7, hv7, B7, n7, T', j', z7, kn⟩ := newBlk hHeld hbw T
        (try (have hne : g8 ≠ g7 := (by have := B8.lt; omega)))
        (try replace B8 := B8.nx kn)
        (first | rw [← hg7, ← hv7] | (rw [show w5.drew.heap.size = w5.heap.size from rfl] at hg7; rw [← hg7, show ∀ o, (w5.alloc o).drew = w5.drew.alloc o from fun _ => rfl, ← hv7]))
        clear T hHeld hg7 hv7 kn
        have T := T'
        have hHeld := j'
        clear T' j'
        refine hK.out _ _ (hHeld) (fun hHeld => ?_)
        clear hK K
        try simp only [Act.put, List.setIfInBounds_toArray, List.set_cons_zero, List.set_cons_succ]
        refine wpAnyH_ready (rs := [11, 17]) (by kernel_rfl) (by simp) ?_
        refine AllReadyH.cons (o := ⟨some 38, .call { callee := .value (.func 17), args := #[.tmp 35, .tmp 37], argTypes := #[25, 3] }, 3, "law.go:124", #[⟨8, .data⟩, ⟨10, .data⟩, ⟨4, .chain⟩], none⟩) rfl (fun K hK => ?_) ?_
        · go_simp
          refine (next_t (L.length : Int) _ T (by omega) (by omega)).mono ?_
          rintro e x4 ⟨r, rfl, r0, r1, T4, kk⟩
          clear T
          have T := T4
          have hHeld := hHeld.nxb kk
          (try replace B7 := B7.nxb n7 kk)
          (try replace B8 := B8.nxb n8 kk)
          obtain ⟨jz, rfl⟩ := Int.eq_ofNat_of_zero_le r0
          have hjz : jz < L.length := by omega
          obtain ⟨_, _, z, he, hx1, hy, hc1⟩ := Rd.at SX hjz
          cases he
          have zL := List.mem_of_getElem? hy
          have E2 := Lib.hid (cells_at hx1 hc1)
          clear r0 r1 kk T4 hx1 hy hc1
          refine hK.out _ _ (hHeld) (fun hHeld => ?_)
          clear hK K
          try simp only [Act.put, List.setIfInBounds_toArray, List.set_cons_zero, List.set_cons_succ]
          refine wpAnyH_take (i := 12) (oi := ⟨some 39, .indexAddr 23 (.tmp 34) (.tmp 38), 0, "law.go:124", #[⟨7, .data⟩, ⟨11, .data⟩, { on := 18, ground := Ground.gcOnly Departure.lateStores }], none⟩) (v := ?_) rfl (by kernel_rfl) (by kernel_rfl) (by kernel_rfl) (fun _ _ _ h => h) (Or.inl ⟨by rfl, ?hyr1x12q588⟩) (by assumption) ?restr1x12q588
          case hyr1x12q588 => intro wq hSw; (go_simp); (try with_reducible rfl)
          try simp only [Act.put, List.setIfInBounds_toArray, List.set_cons_zero, List.set_cons_succ]
          refine wpAnyH_take (i := 13) (oi := ⟨some 40, .load 48 (.tmp 39), 48, "law.go:124", #[⟨12, .data⟩, { on := 18, ground := Ground.gcOnly Departure.lateStores }], none⟩) (v := ?_) rfl (by kernel_rfl) (by kernel_rfl) (by kernel_rfl) (fun _ _ _ h => h) (Or.inl ⟨by rfl, ?hyr1x13q591⟩) (by assumption) ?restr1x13q591
          case hyr1x13q591 => intro wq hSw; ((obtain ⟨c0, c1, c2⟩ := E2.out _ hSw); go_simp); (try with_reducible rfl)
          try simp only [Act.put, List.setIfInBounds_toArray, List.set_cons_zero, List.set_cons_succ]
          refine wpAnyH_ready (rs := [15, 17]) (by kernel_rfl) (by simp) ?_
          refine AllReadyH.cons (o := ⟨some 42, .call { callee := .value (.func 34), args := #[.tmp 41], argTypes := #[25] }, 9, "law.go:124", #[⟨14, .data⟩, ⟨11, .chain⟩], none⟩) rfl (fun K hK => ?_) ?_
          · go_simp
            refine (key_t _ T (L1.out.nxb hgl hHeld) hgl).mono ?_
            rintro e x6 ⟨KY, rfl, hKY, T6, kk⟩
            clear T
            have T := T6
            have hHeld := hHeld.nxb kk
            (try replace B7 := B7.nxb n7 kk)
            (try replace B8 := B8.nxb n8 kk)
            clear kk T6
            refine hK.out _ _ (hHeld) (fun hHeld => ?_)
            clear hK K
            try simp only [Act.put, List.setIfInBounds_toArray, List.set_cons_zero, List.set_cons_succ]
            refine wpAnyH_ready (rs := [17]) (by kernel_rfl) (by simp) ?_
            refine AllReadyH.cons (o := ⟨some 8, .alloc 48, 0, "law.go:124", #[], none⟩) rfl (fun K hK => ?_) AllReadyH.nil
            go_simp
            obtain ⟨g8, v8, hg8, hv8, B8, n8, T', j', z8, kn⟩ := newBlk hHeld hbw T
            (try (have hne : g8 ≠ g7 := (by have := B7.lt; omega)))
            (try replace B7 := B7.nx kn)
            (first | rw [← hg8, ← hv8] | (rw [show w5.drew.heap.size = w5.heap.size from rfl] at hg8; rw [← hg8, show ∀ o, (w5.alloc o).drew = w5.drew.alloc o from fun _ => rfl, ← hv8]))
            clear T hHeld hg8 hv8 kn
            have T := T'
            have hHeld := j'
            clear T' j'
            refine hK.out _ _ (hHeld) (fun hHeld => ?_)
            clear hK K
            try simp only [Act.put, List.setIfInBounds_toArray, List.set_cons_zero, List.set_cons_succ]
            refine wpAnyH_ready (rs := [18]) (by kernel_rfl) (by simp) ?_
            refine AllReadyH.cons (o := ⟨none, .store 48 (.tmp 7) (.tmp 33), 0, "law.go:124", #[⟨16, .data⟩, ⟨6, .data⟩, ⟨15, .chain⟩, ⟨0, .phase⟩, ⟨1, .phase⟩, ⟨2, .phase⟩, ⟨3, .phase⟩, ⟨4, .phase⟩, ⟨5, .phase⟩, ⟨6, .phase⟩, { on := 7, ground := Ground.textOnly Departure.lateStores }, { on := 8, ground := Ground.textOnly Departure.lateStores }, { on := 9, ground := Ground.textOnly Departure.lateStores }, { on := 10, ground := Ground.textOnly Departure.lateStoresUnsure }, { on := 11, ground := Ground.textOnly Departure.lateStoresUnsure }, { on := 12, ground := Ground.textOnly Departure.lateStores }, { on := 13, ground := Ground.textOnly Departure.lateStores }, { on := 14, ground := Ground.textOnly Departure.lateStores }, { on := 15, ground := Ground.textOnly Departure.lateStoresUnsure }, ⟨16, .phase⟩, ⟨17, .phase⟩], none⟩) rfl (fun K hK => ?_) AllReadyH.nil
            have r0 := B7.free 0
            have r1 := B7.free 1
            have r2 := B7.free 2
            have q0 := B7.cell 0 _ rfl
            have q1 := B7.cell 1 _ rfl
            have q2 := B7.cell 2 _ rfl
            have hl := B7.lt
            go_simp
            obtain ⟨v9, hv9, j', B', Bo⟩ := stoBlk B7 hHeld z7 B8 hne (.int .i64 y.id) (.string y.key) (.int .u32 y.word)
            rw [← hv9]
            clear r0 r1 r2 q0 q1 q2 hl hHeld hv9
            have hHeld := j'
            replace B7 := B'
            replace B8 := Bo
            clear j' B' Bo
            refine hK.out _ _ (hHeld) (fun hHeld => ?_)
            clear hK K
            try simp only [Act.put, List.setIfInBounds_toArray, List.set_cons_zero, List.set_cons_succ]
            refine wpAnyH_ready (rs := [19]) (by kernel_rfl) (by simp) ?_
            refine AllReadyH.cons (o := ⟨none, .store 48 (.tmp 8) (.tmp 40), 0, "law.go:124", #[⟨17, .data⟩, ⟨13, .data⟩, ⟨18, .chain⟩, ⟨0, .phase⟩, ⟨1, .phase⟩, ⟨2, .phase⟩, ⟨3, .phase⟩, ⟨4, .phase⟩, ⟨5, .phase⟩, ⟨6, .phase⟩, ⟨7, .phase⟩, ⟨8, .phase⟩, ⟨9, .phase⟩, ⟨10, .phase⟩, ⟨11, .phase⟩, ⟨12, .phase⟩, ⟨13, .phase⟩, { on := 14, ground := Ground.textOnly Departure.lateStores }, { on := 15, ground := Ground.textOnly Departure.lateStoresUnsure }, ⟨16, .phase⟩, ⟨17, .phase⟩, ⟨18, .phase⟩], none⟩) rfl (fun K hK => ?_) AllReadyH.nil
            have r0 := B8.free 0
            have r1 := B8.free 1
            have r2 := B8.free 2
            have q0 := B8.cell 0 _ rfl
            have q1 := B8.cell 1 _ rfl
            have q2 := B8.cell 2 _ rfl
            have hl := B8.lt
            go_simp
            obtain ⟨v9, hv9, j', B', Bo⟩ := stoBlk B8 hHeld z8 B7 (Ne.symm hne) (.int .i64 z.id) (.string z.key) (.int .u32 z.word)
            rw [← hv9]
            clear r0 r1 r2 q0 q1 q2 hl hHeld hv9
            have hHeld := j'
            replace B8 := B'
            replace B7 := Bo
            clear j' B' Bo
            refine hK.out _ _ (hHeld) (fun hHeld => ?_)
            clear hK K
            try simp only [Act.put, List.setIfInBounds_toArray, List.set_cons_zero, List.set_cons_succ]
            refine wpAnyH_take (i := 20) (oi := ⟨some 9, .assign (.tmp 42), 9, "law.go:124", #[⟨15, .data⟩, ⟨19, .chain⟩, ⟨0, .phase⟩, ⟨1, .phase⟩, ⟨2, .phase⟩, ⟨3, .phase⟩, ⟨4, .phase⟩, ⟨5, .phase⟩, ⟨6, .phase⟩, ⟨7, .phase⟩, ⟨8, .phase⟩, ⟨9, .phase⟩, ⟨10, .phase⟩, ⟨11, .phase⟩, ⟨12, .phase⟩, ⟨13, .phase⟩, ⟨14, .phase⟩, ⟨15, .phase⟩, ⟨16, .phase⟩, ⟨17, .phase⟩, ⟨18, .phase⟩, ⟨19, .phase⟩], none⟩) (v := ?_) rfl (by kernel_rfl) (by kernel_rfl) (by kernel_rfl) (fun _ _ _ h => h) (Or.inl ⟨by rfl, ?hyr1x20q662⟩) (by assumption) ?restr1x20q662
            case hyr1x20q662 => intro wq hSw; (go_simp); (try with_reducible rfl)
            try simp only [Act.put, List.setIfInBounds_toArray, List.set_cons_zero, List.set_cons_succ]
            refine wpAnyH_done (by kernel_rfl) ?_ _
            go_wp2_with fail
            go_meet
            exact ⟨g7, g8, y, z, KY, rfl, rfl, rfl, yL, zL, hKY, B7, B8, hHeld⟩
          refine AllReadyH.cons (o := ⟨some 8, .alloc 48, 0, "law.go:124", #[], none⟩) rfl (fun K hK => ?_) AllReadyH.nil
          · go_simp
            obtain ⟨g8, v8, hg8, hv8, B8, n8, T', j', z8, kn⟩ := newBlk hHeld hbw T
            (try (have hne : g8 ≠ g7 := (by have := B7.lt; omega)))
            (try replace B7 := B7.nx kn)
            (first | rw [← hg8, ← hv8] | (rw [show w5.drew.heap.size = w5.heap.size from rfl] at hg8; rw [← hg8, show ∀ o, (w5.alloc o).drew = w5.drew.alloc o from fun _ => rfl, ← hv8]))
            clear T hHeld hg8 hv8 kn
            have T := T'
            have hHeld := j'
            clear T' j'
            refine hK.out _ _ (hHeld) (fun hHeld => ?_)
            clear hK K
            try simp only [Act.put, List.setIfInBounds_toArray, List.set_cons_zero, List.set_cons_succ]
            refine wpAnyH_ready (rs := [15]) (by kernel_rfl) (by simp) ?_
            refine AllReadyH.cons (o := ⟨some 42, .call { callee := .value (.func 34), args := #[.tmp 41], argTypes := #[25] }, 9, "law.go:124", #[⟨14, .data⟩, ⟨11, .chain⟩], none⟩) rfl (fun K hK => ?_) AllReadyH.nil
            go_simp
            refine (key_t _ T (L1.out.nxb hgl hHeld) hgl).mono ?_
            rintro e x6 ⟨KY, rfl, hKY, T6, kk⟩
            clear T
            have T := T6
            have hHeld := hHeld.nxb kk
            (try replace B7 := B7.nxb n7 kk)
            (try replace B8 := B8.nxb n8 kk)
            clear kk T6
            refine hK.out _ _ (hHeld) (fun hHeld => ?_)
            clear hK K
            try simp only [Act.put, List.setIfInBounds_toArray, List.set_cons_zero, List.set_cons_succ]
            refine wpAnyH_ready (rs := [18]) (by kernel_rfl) (by simp) ?_
            refine AllReadyH.cons (o := ⟨none, .store 48 (.tmp 7) (.tmp 33), 0, "law.go:124", #[⟨16, .data⟩, ⟨6, .data⟩, ⟨15, .chain⟩, ⟨0, .phase⟩, ⟨1, .phase⟩, ⟨2, .phase⟩, ⟨3, .phase⟩, ⟨4, .phase⟩, ⟨5, .phase⟩, ⟨6, .phase⟩, { on := 7, ground := Ground.textOnly Departure.lateStores }, { on := 8, ground := Ground.textOnly Departure.lateStores }, { on := 9, ground := Ground.textOnly Departure.lateStores }, { on := 10, ground := Ground.textOnly Departure.lateStoresUnsure }, { on := 11, ground := Ground.textOnly Departure.lateStoresUnsure }, { on := 12, ground := Ground.textOnly Departure.lateStores }, { on := 13, ground := Ground.textOnly Departure.lateStores }, { on := 14, ground := Ground.textOnly Departure.lateStores }, { on := 15, ground := Ground.textOnly Departure.lateStoresUnsure }, ⟨16, .phase⟩, ⟨17, .phase⟩], none⟩) rfl (fun K hK => ?_) AllReadyH.nil
            have r0 := B7.free 0
            have r1 := B7.free 1
            have r2 := B7.free 2
            have q0 := B7.cell 0 _ rfl
            have q1 := B7.cell 1 _ rfl
            have q2 := B7.cell 2 _ rfl
            have hl := B7.lt
            go_simp
            obtain ⟨v9, hv9, j', B', Bo⟩ := stoBlk B7 hHeld z7 B8 hne (.int .i64 y.id) (.string y.key) (.int .u32 y.word)
            rw [← hv9]
            clear r0 r1 r2 q0 q1 q2 hl hHeld hv9
            have hHeld := j'
            replace B7 := B'
            replace B8 := Bo
            clear j' B' Bo
            refine hK.out _ _ (hHeld) (fun hHeld => ?_)
            clear hK K
            try simp only [Act.put, List.setIfInBounds_toArray, List.set_cons_zero, List.set_cons_succ]
            refine wpAnyH_ready (rs := [19]) (by kernel_rfl) (by simp) ?_
            refine AllReadyH.cons (o := ⟨none, .store 48 (.tmp 8) (.tmp 40), 0, "law.go:124", #[⟨17, .data⟩, ⟨13, .data⟩, ⟨18, .chain⟩, ⟨0, .phase⟩, ⟨1, .phase⟩, ⟨2, .phase⟩, ⟨3, .phase⟩, ⟨4, .phase⟩, ⟨5, .phase⟩, ⟨6, .phase⟩, ⟨7, .phase⟩, ⟨8, .phase⟩, ⟨9, .phase⟩, ⟨10, .phase⟩, ⟨11, .phase⟩, ⟨12, .phase⟩, ⟨13, .phase⟩, { on := 14, ground := Ground.textOnly Departure.lateStores }, { on := 15, ground := Ground.textOnly Departure.lateStoresUnsure }, ⟨16, .phase⟩, ⟨17, .phase⟩, ⟨18, .phase⟩], none⟩) rfl (fun K hK => ?_) AllReadyH.nil
            have r0 := B8.free 0
            have r1 := B8.free 1
            have r2 := B8.free 2
            have q0 := B8.cell 0 _ rfl
            have q1 := B8.cell 1 _ rfl
            have q2 := B8.cell 2 _ rfl
            have hl := B8.lt
            go_simp
            obtain ⟨v9, hv9, j', B', Bo⟩ := stoBlk B8 hHeld z8 B7 (Ne.symm hne) (.int .i64 z.id) (.string z.key) (.int .u32 z.word)
            rw [← hv9]
            clear r0 r1 r2 q0 q1 q2 hl hHeld hv9
            have hHeld := j'
            replace B8 := B'
            replace B7 := Bo
            clear j' B' Bo
            refine hK.out _ _ (hHeld) (fun hHeld => ?_)
            clear hK K
            try simp only [Act.put, List.setIfInBounds_toArray, List.set_cons_zero, List.set_cons_succ]
            refine wpAnyH_take (i := 20) (oi := ⟨some 9, .assign (.tmp 42), 9, "law.go:124", #[⟨15, .data⟩, ⟨19, .chain⟩, ⟨0, .phase⟩, ⟨1, .phase⟩, ⟨2, .phase⟩, ⟨3, .phase⟩, ⟨4, .phase⟩, ⟨5, .phase⟩, ⟨6, .phase⟩, ⟨7, .phase⟩, ⟨8, .phase⟩, ⟨9, .phase⟩, ⟨10, .phase⟩, ⟨11, .phase⟩, ⟨12, .phase⟩, ⟨13, .phase⟩, ⟨14, .phase⟩, ⟨15, .phase⟩, ⟨16, .phase⟩, ⟨17, .phase⟩, ⟨18, .phase⟩, ⟨19, .phase⟩], none⟩) (v := ?_) rfl (by kernel_rfl) (by kernel_rfl) (by kernel_rfl) (fun _ _ _ h => h) (Or.inl ⟨by rfl, ?hyr1x20q734⟩) (by assumption) ?restr1x20q734
            case hyr1x20q734 => intro wq hSw; (go_simp); (try with_reducible rfl)
            try simp only [Act.put, List.setIfInBounds_toArray, List.set_cons_zero, List.set_cons_succ]
            refine wpAnyH_done (by kernel_rfl) ?_ _
            go_wp2_with fail
            go_meet
            exact ⟨g7, g8, y, z, KY, rfl, rfl, rfl, yL, zL, hKY, B7, B8, hHeld⟩
        refine AllReadyH.cons (o := ⟨some 8, .alloc 48, 0, "law.go:124", #[], none⟩) rfl (fun K hK => ?_) AllReadyH.nil
        · go_simp
          obtain ⟨g8, v8, hg8, hv8, B8, n8, T', j', z8, kn⟩ := newBlk hHeld hbw T
          (try (have hne : g8 ≠ g7 := (by have := B7.lt; omega)))
          (try replace B7 := B7.nx kn)
          (first | rw [← hg8, ← hv8] | (rw [show w5.drew.heap.size = w5.heap.size from rfl] at hg8; rw [← hg8, show ∀ o, (w5.alloc o).drew = w5.drew.alloc o from fun _ => rfl, ← hv8]))
          clear T hHeld hg8 hv8 kn
          have T := T'
          have hHeld := j'
          clear T' j'
          refine hK.out _ _ (hHeld) (fun hHeld => ?_)
          clear hK K
          try simp only [Act.put, List.setIfInBounds_toArray, List.set_cons_zero, List.set_cons_succ]
          refine wpAnyH_ready (rs := [11]) (by kernel_rfl) (by simp) ?_
          refine AllReadyH.cons (o := ⟨some 38, .call { callee := .value (.func 17), args := #[.tmp 35, .tmp 37], argTypes := #[25, 3] }, 3, "law.go:124", #[⟨8, .data⟩, ⟨10, .data⟩, ⟨4, .chain⟩], none⟩) rfl (fun K hK => ?_) AllReadyH.nil
          go_simp
          refine (next_t (L.length : Int) _ T (by omega) (by omega)).mono ?_
          rintro e x4 ⟨r, rfl, r0, r1, T4, kk⟩
          clear T
          have T := T4
          have hHeld := hHeld.nxb kk
          (try replace B7 := B7.nxb n7 kk)
          (try replace B8 := B8.nxb n8 kk)
          obtain ⟨jz, rfl⟩ := Int.eq_ofNat_of_zero_le r0
          have hjz : jz < L.length := by omega
          obtain ⟨_, _, z, he, hx1, hy, hc1⟩ := Rd.at SX hjz
          cases he
          have zL := List.mem_of_getElem? hy
          have E2 := Lib.hid (cells_at hx1 hc1)
          clear r0 r1 kk T4 hx1 hy hc1
          refine hK.out _ _ (hHeld) (fun hHeld => ?_)
          clear hK K
          try simp only [Act.put, List.setIfInBounds_toArray, List.set_cons_zero, List.set_cons_succ]
          refine wpAnyH_take (i := 12) (oi := ⟨some 39, .indexAddr 23 (.tmp 34) (.tmp 38), 0, "law.go:124", #[⟨7, .data⟩, ⟨11, .data⟩, { on := 18, ground := Ground.gcOnly Departure.lateStores }], none⟩) (v := ?_) rfl (by kernel_rfl) (by kernel_rfl) (by kernel_rfl) (fun _ _ _ h => h) (Or.inl ⟨by rfl, ?hyr1x12q772⟩) (by assumption) ?restr1x12q772
          case hyr1x12q772 => intro wq hSw; (go_simp); (try with_reducible rfl)
          try simp only [Act.put, List.setIfInBounds_toArray, List.set_cons_zero, List.set_cons_succ]
          refine wpAnyH_take (i := 13) (oi := ⟨some 40, .load 48 (.tmp 39), 48, "law.go:124", #[⟨12, .data⟩, { on := 18, ground := Ground.gcOnly Departure.lateStores }], none⟩) (v := ?_) rfl (by kernel_rfl) (by kernel_rfl) (by kernel_rfl) (fun _ _ _ h => h) (Or.inl ⟨by rfl, ?hyr1x13q775⟩) (by assumption) ?restr1x13q775
          case hyr1x13q775 => intro wq hSw; ((obtain ⟨c0, c1, c2⟩ := E2.out _ hSw); go_simp); (try with_reducible rfl)
          try simp only [Act.put, List.setIfInBounds_toArray, List.set_cons_zero, List.set_cons_succ]
          refine wpAnyH_ready (rs := [15]) (by kernel_rfl) (by simp) ?_
          refine AllReadyH.cons (o := ⟨some 42, .call { callee := .value (.func 34), args := #[.tmp 41], argTypes := #[25] }, 9, "law.go:124", #[⟨14, .data⟩, ⟨11, .chain⟩], none⟩) rfl (fun K hK => ?_) AllReadyH.nil
          go_simp
          refine (key_t _ T (L1.out.nxb hgl hHeld) hgl).mono ?_
          rintro e x6 ⟨KY, rfl, hKY, T6, kk⟩
          clear T
          have T := T6
          have hHeld := hHeld.nxb kk
          (try replace B7 := B7.nxb n7 kk)
          (try replace B8 := B8.nxb n8 kk)
          clear kk T6
          refine hK.out _ _ (hHeld) (fun hHeld => ?_)
          clear hK K
          try simp only [Act.put, List.setIfInBounds_toArray, List.set_cons_zero, List.set_cons_succ]
          refine wpAnyH_ready (rs := [18]) (by kernel_rfl) (by simp) ?_
          refine AllReadyH.cons (o := ⟨none, .store 48 (.tmp 7) (.tmp 33), 0, "law.go:124", #[⟨16, .data⟩, ⟨6, .data⟩, ⟨15, .chain⟩, ⟨0, .phase⟩, ⟨1, .phase⟩, ⟨2, .phase⟩, ⟨3, .phase⟩, ⟨4, .phase⟩, ⟨5, .phase⟩, ⟨6, .phase⟩, { on := 7, ground := Ground.textOnly Departure.lateStores }, { on := 8, ground := Ground.textOnly Departure.lateStores }, { on := 9, ground := Ground.textOnly Departure.lateStores }, { on := 10, ground := Ground.textOnly Departure.lateStoresUnsure }, { on := 11, ground := Ground.textOnly Departure.lateStoresUnsure }, { on := 12, ground := Ground.textOnly Departure.lateStores }, { on := 13, ground := Ground.textOnly Departure.lateStores }, { on := 14, ground := Ground.textOnly Departure.lateStores }, { on := 15, ground := Ground.textOnly Departure.lateStoresUnsure }, ⟨16, .phase⟩, ⟨17, .phase⟩], none⟩) rfl (fun K hK => ?_) AllReadyH.nil
          have r0 := B7.free 0
          have r1 := B7.free 1
          have r2 := B7.free 2
          have q0 := B7.cell 0 _ rfl
          have q1 := B7.cell 1 _ rfl
          have q2 := B7.cell 2 _ rfl
          have hl := B7.lt
          go_simp
          obtain ⟨v9, hv9, j', B', Bo⟩ := stoBlk B7 hHeld z7 B8 hne (.int .i64 y.id) (.string y.key) (.int .u32 y.word)
          rw [← hv9]
          clear r0 r1 r2 q0 q1 q2 hl hHeld hv9
          have hHeld := j'
          replace B7 := B'
          replace B8 := Bo
          clear j' B' Bo
          refine hK.out _ _ (hHeld) (fun hHeld => ?_)
          clear hK K
          try simp only [Act.put, List.setIfInBounds_toArray, List.set_cons_zero, List.set_cons_succ]
          refine wpAnyH_ready (rs := [19]) (by kernel_rfl) (by simp) ?_
          refine AllReadyH.cons (o := ⟨none, .store 48 (.tmp 8) (.tmp 40), 0, "law.go:124", #[⟨17, .data⟩, ⟨13, .data⟩, ⟨18, .chain⟩, ⟨0, .phase⟩, ⟨1, .phase⟩, ⟨2, .phase⟩, ⟨3, .phase⟩, ⟨4, .phase⟩, ⟨5, .phase⟩, ⟨6, .phase⟩, ⟨7, .phase⟩, ⟨8, .phase⟩, ⟨9, .phase⟩, ⟨10, .phase⟩, ⟨11, .phase⟩, ⟨12, .phase⟩, ⟨13, .phase⟩, { on := 14, ground := Ground.textOnly Departure.lateStores }, { on := 15, ground := Ground.textOnly Departure.lateStoresUnsure }, ⟨16, .phase⟩, ⟨17, .phase⟩, ⟨18, .phase⟩], none⟩) rfl (fun K hK => ?_) AllReadyH.nil
          have r0 := B8.free 0
          have r1 := B8.free 1
          have r2 := B8.free 2
          have q0 := B8.cell 0 _ rfl
          have q1 := B8.cell 1 _ rfl
          have q2 := B8.cell 2 _ rfl
          have hl := B8.lt
          go_simp
          obtain ⟨v9, hv9, j', B', Bo⟩ := stoBlk B8 hHeld z8 B7 (Ne.symm hne) (.int .i64 z.id) (.string z.key) (.int .u32 z.word)
          rw [← hv9]
          clear r0 r1 r2 q0 q1 q2 hl hHeld hv9
          have hHeld := j'
          replace B8 := B'
          replace B7 := Bo
          clear j' B' Bo
          refine hK.out _ _ (hHeld) (fun hHeld => ?_)
          clear hK K
          try simp only [Act.put, List.setIfInBounds_toArray, List.set_cons_zero, List.set_cons_succ]
          refine wpAnyH_take (i := 20) (oi := ⟨some 9, .assign (.tmp 42), 9, "law.go:124", #[⟨15, .data⟩, ⟨19, .chain⟩, ⟨0, .phase⟩, ⟨1, .phase⟩, ⟨2, .phase⟩, ⟨3, .phase⟩, ⟨4, .phase⟩, ⟨5, .phase⟩, ⟨6, .phase⟩, ⟨7, .phase⟩, ⟨8, .phase⟩, ⟨9, .phase⟩, ⟨10, .phase⟩, ⟨11, .phase⟩, ⟨12, .phase⟩, ⟨13, .phase⟩, ⟨14, .phase⟩, ⟨15, .phase⟩, ⟨16, .phase⟩, ⟨17, .phase⟩, ⟨18, .phase⟩, ⟨19, .phase⟩], none⟩) (v := ?_) rfl (by kernel_rfl) (by kernel_rfl) (by kernel_rfl) (fun _ _ _ h => h) (Or.inl ⟨by rfl, ?hyr1x20q832⟩) (by assumption) ?restr1x20q832
          case hyr1x20q832 => intro wq hSw; (go_simp); (try with_reducible rfl)
          try simp only [Act.put, List.setIfInBounds_toArray, List.set_cons_zero, List.set_cons_succ]
          refine wpAnyH_done (by kernel_rfl) ?_ _
          go_wp2_with fail
          go_meet
          exact ⟨g7, g8, y, z, KY, rfl, rfl, rfl, yL, zL, hKY, B7, B8, hHeld⟩
      refine AllReadyH.cons (o := ⟨some 8, .alloc 48, 0, "law.go:124", #[], none⟩) rfl (fun K hK => ?_) AllReadyH.nil
      · go_simp
        obtain ⟨g8, v8, hg8, hv8, B8, n8, T', j', z8, kn⟩ := newBlk hHeld hbw T
        (try (have hne : g8 ≠ g7 := (by have := B7.lt; omega)))
        (try replace B7 := B7.nx kn)
        (first | rw [← hg8, ← hv8] | (rw [show w5.drew.heap.size = w5.heap.size from rfl] at hg8; rw [← hg8, show ∀ o, (w5.alloc o).drew = w5.drew.alloc o from fun _ => rfl, ← hv8]))
        clear T hHeld hg8 hv8 kn
        have T := T'
        have hHeld := j'
        clear T' j'
        refine hK.out _ _ (hHeld) (fun hHeld => ?_)
        clear hK K
        try simp only [Act.put, List.setIfInBounds_toArray, List.set_cons_zero, List.set_cons_succ]
        refine wpAnyH_ready (rs := [11, 16]) (by kernel_rfl) (by simp) ?_
        refine AllReadyH.cons (o := ⟨some 38, .call { callee := .value (.func 17), args := #[.tmp 35, .tmp 37], argTypes := #[25, 3] }, 3, "law.go:124", #[⟨8, .data⟩, ⟨10, .data⟩, ⟨4, .chain⟩], none⟩) rfl (fun K hK => ?_) ?_
        · go_simp
          refine (next_t (L.length : Int) _ T (by omega) (by omega)).mono ?_
          rintro e x4 ⟨r, rfl, r0, r1, T4, kk⟩
          clear T
          have T := T4
          have hHeld := hHeld.nxb kk
          (try replace B7 := B7.nxb n7 kk)
          (try replace B8 := B8.nxb n8 kk)
          obtain ⟨jz, rfl⟩ := Int.eq_ofNat_of_zero_le r0
          have hjz : jz < L.length := by omega
          obtain ⟨_, _, z, he, hx1, hy, hc1⟩ := Rd.at SX hjz
          cases he
          have zL := List.mem_of_getElem? hy
          have E2 := Lib.hid (cells_at hx1 hc1)
          clear r0 r1 kk T4 hx1 hy hc1
          refine hK.out _ _ (hHeld) (fun hHeld => ?_)
          clear hK K
          try simp only [Act.put, List.setIfInBounds_toArray, List.set_cons_zero, List.set_cons_succ]
          refine wpAnyH_take (i := 12) (oi := ⟨some 39, .indexAddr 23 (.tmp 34) (.tmp 38), 0, "law.go:124", #[⟨7, .data⟩, ⟨11, .data⟩, { on := 18, ground := Ground.gcOnly Departure.lateStores }], none⟩) (v := ?_) rfl (by kernel_rfl) (by kernel_rfl) (by kernel_rfl) (fun _ _ _ h => h) (Or.inl ⟨by rfl, ?hyr1x12q870⟩) (by assumption) ?restr1x12q870
          case hyr1x12q870 => intro wq hSw; (go_simp); (try with_reducible rfl)
          try simp only [Act.put, List.setIfInBounds_toArray, List.set_cons_zero, List.set_cons_succ]
          refine wpAnyH_take (i := 13) (oi := ⟨some 40, .load 48 (.tmp 39), 48, "law.go:124", #[⟨12, .data⟩, { on := 18, ground := Ground.gcOnly Departure.lateStores }], none⟩) (v := ?_) rfl (by kernel_rfl) (by kernel_rfl) (by kernel_rfl) (fun _ _ _ h => h) (Or.inl ⟨by rfl, ?hyr1x13q873⟩) (by assumption) ?restr1x13q873
          case hyr1x13q873 => intro wq hSw; ((obtain ⟨c0, c1, c2⟩ := E2.out _ hSw); go_simp); (try with_reducible rfl)
          try simp only [Act.put, List.setIfInBounds_toArray, List.set_cons_zero, List.set_cons_succ]
          refine wpAnyH_ready (rs := [15, 16]) (by kernel_rfl) (by simp) ?_
          refine AllReadyH.cons (o := ⟨some 42, .call { callee := .value (.func 34), args := #[.tmp 41], argTypes := #[25] }, 9, "law.go:124", #[⟨14, .data⟩, ⟨11, .chain⟩], none⟩) rfl (fun K hK => ?_) ?_
          · go_simp
            refine (key_t _ T (L1.out.nxb hgl hHeld) hgl).mono ?_
            rintro e x6 ⟨KY, rfl, hKY, T6, kk⟩
            clear T
            have T := T6
            have hHeld := hHeld.nxb kk
            (try replace B7 := B7.nxb n7 kk)
            (try replace B8 := B8.nxb n8 kk)
            clear kk T6
            refine hK.out _ _ (hHeld) (fun hHeld => ?_)
            clear hK K
            try simp only [Act.put, List.setIfInBounds_toArray, List.set_cons_zero, List.set_cons_succ]
            refine wpAnyH_ready (rs := [16]) (by kernel_rfl) (by simp) ?_
            refine AllReadyH.cons (o := ⟨some 7, .alloc 48, 0, "law.go:124", #[], none⟩) rfl (fun K hK => ?_) AllReadyH.nil
            go_simp
            obtain ⟨g7, v7, hg7, hv7, B7, n7, T', j', z7, kn⟩ := newBlk hHeld hbw T
            (try (have hne : g8 ≠ g7 := (by have := B8.lt; omega)))
            (try replace B8 := B8.nx kn)
            (first | rw [← hg7, ← hv7] | (rw [show w5.drew.heap.size = w5.heap.size from rfl] at hg7; rw [← hg7, show ∀ o, (w5.alloc o).drew = w5.drew.alloc o from fun _ => rfl, ← hv7]))
            clear T hHeld hg7 hv7 kn
            have T := T'
            have hHeld := j'
            clear T' j'
            refine hK.out _ _ (hHeld) (fun hHeld => ?_)
            clear hK K
            try simp only [Act.put, List.setIfInBounds_toArray, List.set_cons_zero, List.set_cons_succ]
            refine wpAnyH_ready (rs := [18]) (by kernel_rfl) (by simp) ?_
            refine AllReadyH.cons (o := ⟨none, .store 48 (.tmp 7) (.tmp 33), 0, "law.go:124", #[⟨16, .data⟩, ⟨6, .data⟩, ⟨15, .chain⟩, ⟨0, .phase⟩, ⟨1, .phase⟩, ⟨2, .phase⟩, ⟨3, .phase⟩, ⟨4, .phase⟩, ⟨5, .phase⟩, ⟨6, .phase⟩, { on := 7, ground := Ground.textOnly Departure.lateStores }, { on := 8, ground := Ground.textOnly Departure.lateStores }, { on := 9, ground := Ground.textOnly Departure.lateStores }, { on := 10, ground := Ground.textOnly Departure.lateStoresUnsure }, { on := 11, ground := Ground.textOnly Departure.lateStoresUnsure }, { on := 12, ground := Ground.textOnly Departure.lateStores }, { on := 13, ground := Ground.textOnly Departure.lateStores }, { on := 14, ground := Ground.textOnly Departure.lateStores }, { on := 15, ground := Ground.textOnly Departure.lateStoresUnsure }, ⟨16, .phase⟩, ⟨17, .phase⟩], none⟩) rfl (fun K hK => ?_) AllReadyH.nil
            have r0 := B7.free 0
            have r1 := B7.free 1
            have r2 := B7.free 2
            have q0 := B7.cell 0 _ rfl
            have q1 := B7.cell 1 _ rfl
            have q2 := B7.cell 2 _ rfl
            have hl := B7.lt
            go_simp
            obtain ⟨v9, hv9, j', B', Bo⟩ := stoBlk B7 hHeld z7 B8 hne (.int .i64 y.id) (.string y.key) (.int .u32 y.word)
            rw [← hv9]
            clear r0 r1 r2 q0 q1 q2 hl hHeld hv9
            have hHeld := j'
            replace B7 := B'
            replace B8 := Bo
            clear j' B' Bo
            refine hK.out _ _ (hHeld) (fun hHeld => ?_)
            clear hK K
            try simp only [Act.put, List.setIfInBounds_toArray, List.set_cons_zero, List.set_cons_succ]
            refine wpAnyH_ready (rs := [19]) (by kernel_rfl) (by simp) ?_
            refine AllReadyH.cons (o := ⟨none, .store 48 (.tmp 8) (.tmp 40), 0, "law.go:124", #[⟨17, .data⟩, ⟨13, .data⟩, ⟨18, .chain⟩, ⟨0, .phase⟩, ⟨1, .phase⟩, ⟨2, .phase⟩, ⟨3, .phase⟩, ⟨4, .phase⟩, ⟨5, .phase⟩, ⟨6, .phase⟩, ⟨7, .phase⟩, ⟨8, .phase⟩, ⟨9, .phase⟩, ⟨10, .phase⟩, ⟨11, .phase⟩, ⟨12, .phase⟩, ⟨13, .phase⟩, { on := 14, ground := Ground.textOnly Departure.lateStores }, { on := 15, ground := Ground.textOnly Departure.lateStoresUnsure }, ⟨16, .phase⟩, ⟨17, .phase⟩, ⟨18, .phase⟩], none⟩) rfl (fun K hK => ?_) AllReadyH.nil
            have r0 := B8.free 0
            have r1 := B8.free 1
            have r2 := B8.free 2
            have q0 := B8.cell 0 _ rfl
            have q1 := B8.cell 1 _ rfl
            have q2 := B8.cell 2 _ rfl
            have hl := B8.lt
            go_simp
            obtain ⟨v9, hv9, j', B', Bo⟩ := stoBlk B8 hHeld z8 B7 (Ne.symm hne) (.int .i64 z.id) (.string z.key) (.int .u32 z.word)
            rw [← hv9]
            clear r0 r1 r2 q0 q1 q2 hl hHeld hv9
            have hHeld := j'
            replace B8 := B'
            replace B7 := Bo
            clear j' B' Bo
            refine hK.out _ _ (hHeld) (fun hHeld => ?_)
            clear hK K
            try simp only [Act.put, List.setIfInBounds_toArray, List.set_cons_zero, List.set_cons_succ]
            refine wpAnyH_take (i := 20) (oi := ⟨some 9, .assign (.tmp 42), 9, "law.go:124", #[⟨15, .data⟩, ⟨19, .chain⟩, ⟨0, .phase⟩, ⟨1, .phase⟩, ⟨2, .phase⟩, ⟨3, .phase⟩, ⟨4, .phase⟩, ⟨5, .phase⟩, ⟨6, .phase⟩, ⟨7, .phase⟩, ⟨8, .phase⟩, ⟨9, .phase⟩, ⟨10, .phase⟩, ⟨11, .phase⟩, ⟨12, .phase⟩, ⟨13, .phase⟩, ⟨14, .phase⟩, ⟨15, .phase⟩, ⟨16, .phase⟩, ⟨17, .phase⟩, ⟨18, .phase⟩, ⟨19, .phase⟩], none⟩) (v := ?_) rfl (by kernel_rfl) (by kernel_rfl) (by kernel_rfl) (fun _ _ _ h => h) (Or.inl ⟨by rfl, ?hyr1x20q944⟩) (by assumption) ?restr1x20q944
            case hyr1x20q944 => intro wq hSw; (go_simp); (try with_reducible rfl)
            try simp only [Act.put, List.setIfInBounds_toArray, List.set_cons_zero, List.set_cons_succ]
            refine wpAnyH_done (by kernel_rfl) ?_ _
            go_wp2_with fail
            go_meet
            exact ⟨g7, g8, y, z, KY, rfl, rfl, rfl, yL, zL, hKY, B7, B8, hHeld⟩
          refine AllReadyH.cons (o := ⟨some 7, .alloc 48, 0, "law.go:124", #[], none⟩) rfl (fun K hK => ?_) AllReadyH.nil
          · go_simp
            obtain ⟨g7, v7, hg7, hv7, B7, n7, T', j', z7, kn⟩ := newBlk hHeld hbw T
            (try (have hne : g8 ≠ g7 := (by have := B8.lt; omega)))
            (try replace B8 := B8.nx kn)
            (first | rw [← hg7, ← hv7] | (rw [show w5.drew.heap.size = w5.heap.size from rfl] at hg7; rw [← hg7, show ∀ o, (w5.alloc o).drew = w5.drew.alloc o from fun _ => rfl, ← hv7]))
            clear T hHeld hg7 hv7 kn
            have T := T'
            have hHeld := j'
            clear T' j'
            refine hK.out _ _ (hHeld) (fun hHeld => ?_)
            clear hK K
            try simp only [Act.put, List.setIfInBounds_toArray, List.set_cons_zero, List.set_cons_succ]
            refine wpAnyH_ready (rs := [15]) (by kernel_rfl) (by simp) ?_
            refine AllReadyH.cons (o := ⟨some 42, .call { callee := .value (.func 34), args := #[.tmp 41], argTypes := #[25] }, 9, "law.go:124", #[⟨14, .data⟩, ⟨11, .chain⟩], none⟩) rfl (fun K hK => ?_) AllReadyH.nil
            go_simp
            refine (key_t _ T (L1.out.nxb hgl hHeld) hgl).mono ?_
            rintro e x6 ⟨KY, rfl, hKY, T6, kk⟩
            clear T
            have T := T6
            have hHeld := hHeld.nxb kk
            (try replace B7 := B7.nxb n7 kk)
            (try replace B8 := B8.nxb n8 kk)
            clear kk T6
            refine hK.out _ _ (hHeld) (fun hHeld => ?_)
            clear hK K
            try simp only [Act.put, List.setIfInBounds_toArray, List.set_cons_zero, List.set_cons_succ]
            refine wpAnyH_ready (rs := [18]) (by kernel_rfl) (by simp) ?_
            refine AllReadyH.cons (o := ⟨none, .store 48 (.tmp 7) (.tmp 33), 0, "law.go:124", #[⟨16, .data⟩, ⟨6, .data⟩, ⟨15, .chain⟩, ⟨0, .phase⟩, ⟨1, .phase⟩, ⟨2, .phase⟩, ⟨3, .phase⟩, ⟨4, .phase⟩, ⟨5, .phase⟩, ⟨6, .phase⟩, { on := 7, ground := Ground.textOnly Departure.lateStores }, { on := 8, ground := Ground.textOnly Departure.lateStores }, { on := 9, ground := Ground.textOnly Departure.lateStores }, { on := 10, ground := Ground.textOnly Departure.lateStoresUnsure }, { on := 11, ground := Ground.textOnly Departure.lateStoresUnsure }, { on := 12, ground := Ground.textOnly Departure.lateStores }, { on := 13, ground := Ground.textOnly Departure.lateStores }, { on := 14, ground := Ground.textOnly Departure.lateStores }, { on := 15, ground := Ground.textOnly Departure.lateStoresUnsure }, ⟨16, .phase⟩, ⟨17, .phase⟩], none⟩) rfl (fun K hK => ?_) AllReadyH.nil
            have r0 := B7.free 0
            have r1 := B7.free 1
            have r2 := B7.free 2
            have q0 := B7.cell 0 _ rfl
            have q1 := B7.cell 1 _ rfl
            have q2 := B7.cell 2 _ rfl
            have hl := B7.lt
            go_simp
            obtain ⟨v9, hv9, j', B', Bo⟩ := stoBlk B7 hHeld z7 B8 hne (.int .i64 y.id) (.string y.key) (.int .u32 y.word)
            rw [← hv9]
            clear r0 r1 r2 q0 q1 q2 hl hHeld hv9
            have hHeld := j'
            replace B7 := B'
            replace B8 := Bo
            clear j' B' Bo
            refine hK.out _ _ (hHeld) (fun hHeld => ?_)
            clear hK K
            try simp only [Act.put, List.setIfInBounds_toArray, List.set_cons_zero, List.set_cons_succ]
            refine wpAnyH_ready (rs := [19]) (by kernel_rfl) (by simp) ?_
            refine AllReadyH.cons (o := ⟨none, .store 48 (.tmp 8) (.tmp 40), 0, "law.go:124", #[⟨17, .data⟩, ⟨13, .data⟩, ⟨18, .chain⟩, ⟨0, .phase⟩, ⟨1, .phase⟩, ⟨2, .phase⟩, ⟨3, .phase⟩, ⟨4, .phase⟩, ⟨5, .phase⟩, ⟨6, .phase⟩, ⟨7, .phase⟩, ⟨8, .phase⟩, ⟨9, .phase⟩, ⟨10, .phase⟩, ⟨11, .phase⟩, ⟨12, .phase⟩, ⟨13, .phase⟩, { on := 14, ground := Ground.textOnly Departure.lateStores }, { on := 15, ground := Ground.textOnly Departure.lateStoresUnsure }, ⟨16, .phase⟩, ⟨17, .phase⟩, ⟨18, .phase⟩], none⟩) rfl (fun K hK => ?_) AllReadyH.nil
            have r0 := B8.free 0
            have r1 := B8.free 1
            have r2 := B8.free 2
            have q0 := B8.cell 0 _ rfl
            have q1 := B8.cell 1 _ rfl
            have q2 := B8.cell 2 _ rfl
            have hl := B8.lt
            go_simp
            obtain ⟨v9, hv9, j', B', Bo⟩ := stoBlk B8 hHeld z8 B7 (Ne.symm hne) (.int .i64 z.id) (.string z.key) (.int .u32 z.word)
            rw [← hv9]
            clear r0 r1 r2 q0 q1 q2 hl hHeld hv9
            have hHeld := j'
            replace B8 := B'
            replace B7 := Bo
            clear j' B' Bo
            refine hK.out _ _ (hHeld) (fun hHeld => ?_)
            clear hK K
            try simp only [Act.put, List.setIfInBounds_toArray, List.set_cons_zero, List.set_cons_succ]
            refine wpAnyH_take (i := 20) (oi := ⟨some 9, .assign (.tmp 42), 9, "law.go:124", #[⟨15, .data⟩, ⟨19, .chain⟩, ⟨0, .phase⟩, ⟨1, .phase⟩, ⟨2, .phase⟩, ⟨3, .phase⟩, ⟨4, .phase⟩, ⟨5, .phase⟩, ⟨6, .phase⟩, ⟨7, .phase⟩, ⟨8, .phase⟩, ⟨9, .phase⟩, ⟨10, .phase⟩, ⟨11, .phase⟩, ⟨12, .phase⟩, ⟨13, .phase⟩, ⟨14, .phase⟩, ⟨15, .phase⟩, ⟨16, .phase⟩, ⟨17, .phase⟩, ⟨18, .phase⟩, ⟨19, .phase⟩], none⟩) (v := ?_) rfl (by kernel_rfl) (by kernel_rfl) (by kernel_rfl) (fun _ _ _ h => h) (Or.inl ⟨by rfl, ?hyr1x20q1016⟩) (by assumption) ?restr1x20q1016
            case hyr1x20q1016 => intro wq hSw; (go_simp); (try with_reducible rfl)
            try simp only [Act.put, List.setIfInBounds_toArray, List.set_cons_zero, List.set_cons_succ]
            refine wpAnyH_done (by kernel_rfl) ?_ _
            go_wp2_with fail
            go_meet
            exact ⟨g7, g8, y, z, KY, rfl, rfl, rfl, yL, zL, hKY, B7, B8, hHeld⟩
        refine AllReadyH.cons (o := ⟨some 7, .alloc 48, 0, "law.go:124", #[], none⟩) rfl (fun K hK => ?_) AllReadyH.nil
        · go_simp
          obtain ⟨g7, v7, hg7, hv7, B7, n7, T', j', z7, kn⟩ := newBlk hHeld hbw T
          (try (have hne : g8 ≠ g7 := (by have := B8.lt; omega)))
          (try replace B8 := B8.nx kn)
          (first | rw [← hg7, ← hv7] | (rw [show w5.drew.heap.size = w5.heap.size from rfl] at hg7; rw [← hg7, show ∀ o, (w5.alloc o).drew = w5.drew.alloc o from fun _ => rfl, ← hv7]))
          clear T hHeld hg7 hv7 kn
          have T := T'
          have hHeld := j'
          clear T' j'
          refine hK.out _ _ (hHeld) (fun hHeld => ?_)
          clear hK K
          try simp only [Act.put, List.setIfInBounds_toArray, List.set_cons_zero, List.set_cons_succ]
          refine wpAnyH_ready (rs := [11]) (by kernel_rfl) (by simp) ?_
          refine AllReadyH.cons (o := ⟨some 38, .call { callee := .value (.func 17), args := #[.tmp 35, .tmp 37], argTypes := #[25, 3] }, 3, "law.go:124", #[⟨8, .data⟩, ⟨10, .data⟩, ⟨4, .chain⟩], none⟩) rfl (fun K hK => ?_) AllReadyH.nil
          go_simp
          refine (next_t (L.length : Int) _ T (by omega) (by omega)).mono ?_
          rintro e x4 ⟨r, rfl, r0, r1, T4, kk⟩
          clear T
          have T := T4
          have hHeld := hHeld.nxb kk
          (try replace B7 := B7.nxb n7 kk)
          (try replace B8 := B8.nxb n8 kk)
          obtain ⟨jz, rfl⟩ := Int.eq_ofNat_of_zero_le r0
          have hjz : jz < L.length := by omega
          obtain ⟨_, _, z, he, hx1, hy, hc1⟩ := Rd.at SX hjz
          cases he
          have zL := List.mem_of_getElem? hy
          have E2 := Lib.hid (cells_at hx1 hc1)
          clear r0 r1 kk T4 hx1 hy hc1
          refine hK.out _ _ (hHeld) (fun hHeld => ?_)
          clear hK K
          try simp only [Act.put, List.setIfInBounds_toArray, List.set_cons_zero, List.set_cons_succ]
          refine wpAnyH_take (i := 12) (oi := ⟨some 39, .indexAddr 23 (.tmp 34) (.tmp 38), 0, "law.go:124", #[⟨7, .data⟩, ⟨11, .data⟩, { on := 18, ground := Ground.gcOnly Departure.lateStores }], none⟩) (v := ?_) rfl (by kernel_rfl) (by kernel_rfl) (by kernel_rfl) (fun _ _ _ h => h) (Or.inl ⟨by rfl, ?hyr1x12q1054⟩) (by assumption) ?restr1x12q1054
          case hyr1x12q1054 => intro wq hSw; (go_simp); (try with_reducible rfl)
          try simp only [Act.put, List.setIfInBounds_toArray, List.set_cons_zero, List.set_cons_succ]
          refine wpAnyH_take (i := 13) (oi := ⟨some 40, .load 48 (.tmp 39), 48, "law.go:124", #[⟨12, .data⟩, { on := 18, ground := Ground.gcOnly Departure.lateStores }], none⟩) (v := ?_) rfl (by kernel_rfl) (by kernel_rfl) (by kernel_rfl) (fun _ _ _ h => h) (Or.inl ⟨by rfl, ?hyr1x13q1057⟩) (by assumption) ?restr1x13q1057
          case hyr1x13q1057 => intro wq hSw; ((obtain ⟨c0, c1, c2⟩ := E2.out _ hSw); go_simp); (try with_reducible rfl)
          try simp only [Act.put, List.setIfInBounds_toArray, List.set_cons_zero, List.set_cons_succ]
          refine wpAnyH_ready (rs := [15]) (by kernel_rfl) (by simp) ?_
          refine AllReadyH.cons (o := ⟨some 42, .call { callee := .value (.func 34), args := #[.tmp 41], argTypes := #[25] }, 9, "law.go:124", #[⟨14, .data⟩, ⟨11, .chain⟩], none⟩) rfl (fun K hK => ?_) AllReadyH.nil
          go_simp
          refine (key_t _ T (L1.out.nxb hgl hHeld) hgl).mono ?_
          rintro e x6 ⟨KY, rfl, hKY, T6, kk⟩
          clear T
          have T := T6
          have hHeld := hHeld.nxb kk
          (try replace B7 := B7.nxb n7 kk)
          (try replace B8 := B8.nxb n8 kk)
          clear kk T6
          refine hK.out _ _ (hHeld) (fun hHeld => ?_)
          clear hK K
          try simp only [Act.put, List.setIfInBounds_toArray, List.set_cons_zero, List.set_cons_succ]
          refine wpAnyH_ready (rs := [18]) (by kernel_rfl) (by simp) ?_
          refine AllReadyH.cons (o := ⟨none, .store 48 (.tmp 7) (.tmp 33), 0, "law.go:124", #[⟨16, .data⟩, ⟨6, .data⟩, ⟨15, .chain⟩, ⟨0, .phase⟩, ⟨1, .phase⟩, ⟨2, .phase⟩, ⟨3, .phase⟩, ⟨4, .phase⟩, ⟨5, .phase⟩, ⟨6, .phase⟩, { on := 7, ground := Ground.textOnly Departure.lateStores }, { on := 8, ground := Ground.textOnly Departure.lateStores }, { on := 9, ground := Ground.textOnly Departure.lateStores }, { on := 10, ground := Ground.textOnly Departure.lateStoresUnsure }, { on := 11, ground := Ground.textOnly Departure.lateStoresUnsure }, { on := 12, ground := Ground.textOnly Departure.lateStores }, { on := 13, ground := Ground.textOnly Departure.lateStores }, { on := 14, ground := Ground.textOnly Departure.lateStores }, { on := 15, ground := Ground.textOnly Departure.lateStoresUnsure }, ⟨16, .phase⟩, ⟨17, .phase⟩], none⟩) rfl (fun K hK => ?_) AllReadyH.nil
          have r0 := B7.free 0
          have r1 := B7.free 1
          have r2 := B7.free 2
          have q0 := B7.cell 0 _ rfl
          have q1 := B7.cell 1 _ rfl
          have q2 := B7.cell 2 _ rfl
          have hl := B7.lt
          go_simp
          obtain ⟨v9, hv9, j', B', Bo⟩ := stoBlk B7 hHeld z7 B8 hne (.int .i64 y.id) (.string y.key) (.int .u32 y.word)
          rw [← hv9]
          clear r0 r1 r2 q0 q1 q2 hl hHeld hv9
          have hHeld := j'
          replace B7 := B'
          replace B8 := Bo
          clear j' B' Bo
          refine hK.out _ _ (hHeld) (fun hHeld => ?_)
          clear hK K
          try simp only [Act.put, List.setIfInBounds_toArray, List.set_cons_zero, List.set_cons_succ]
          refine wpAnyH_ready (rs := [19]) (by kernel_rfl) (by simp) ?_
          refine AllReadyH.cons (o := ⟨none, .store 48 (.tmp 8) (.tmp 40), 0, "law.go:124", #[⟨17, .data⟩, ⟨13, .data⟩, ⟨18, .chain⟩, ⟨0, .phase⟩, ⟨1, .phase⟩, ⟨2, .phase⟩, ⟨3, .phase⟩, ⟨4, .phase⟩, ⟨5, .phase⟩, ⟨6, .phase⟩, ⟨7, .phase⟩, ⟨8, .phase⟩, ⟨9, .phase⟩, ⟨10, .phase⟩, ⟨11, .phase⟩, ⟨12, .phase⟩, ⟨13, .phase⟩, { on := 14, ground := Ground.textOnly Departure.lateStores }, { on := 15, ground := Ground.textOnly Departure.lateStoresUnsure }, ⟨16, .phase⟩, ⟨17, .phase⟩, ⟨18, .phase⟩], none⟩) rfl (fun K hK => ?_) AllReadyH.nil
          have r0 := B8.free 0
          have r1 := B8.free 1
          have r2 := B8.free 2
          have q0 := B8.cell 0 _ rfl
          have q1 := B8.cell 1 _ rfl
          have q2 := B8.cell 2 _ rfl
          have hl := B8.lt
          go_simp
          obtain ⟨v9, hv9, j', B', Bo⟩ := stoBlk B8 hHeld z8 B7 (Ne.symm hne) (.int .i64 z.id) (.string z.key) (.int .u32 z.word)
          rw [← hv9]
          clear r0 r1 r2 q0 q1 q2 hl hHeld hv9
          have hHeld := j'
          replace B8 := B'
          replace B7 := Bo
          clear j' B' Bo
          refine hK.out _ _ (hHeld) (fun hHeld => ?_)
          clear hK K
          try simp only [Act.put, List.setIfInBounds_toArray, List.set_cons_zero, List.set_cons_succ]
          refine wpAnyH_take (i := 20) (oi := ⟨some 9, .assign (.tmp 42), 9, "law.go:124", #[⟨15, .data⟩, ⟨19, .chain⟩, ⟨0, .phase⟩, ⟨1, .phase⟩, ⟨2, .phase⟩, ⟨3, .phase⟩, ⟨4, .phase⟩, ⟨5, .phase⟩, ⟨6, .phase⟩, ⟨7, .phase⟩, ⟨8, .phase⟩, ⟨9, .phase⟩, ⟨10, .phase⟩, ⟨11, .phase⟩, ⟨12, .phase⟩, ⟨13, .phase⟩, ⟨14, .phase⟩, ⟨15, .phase⟩, ⟨16, .phase⟩, ⟨17, .phase⟩, ⟨18, .phase⟩, ⟨19, .phase⟩], none⟩) (v := ?_) rfl (by kernel_rfl) (by kernel_rfl) (by kernel_rfl) (fun _ _ _ h => h) (Or.inl ⟨by rfl, ?hyr1x20q1114⟩) (by assumption) ?restr1x20q1114
          case hyr1x20q1114 => intro wq hSw; (go_simp); (try with_reducible rfl)
          try simp only [Act.put, List.setIfInBounds_toArray, List.set_cons_zero, List.set_cons_succ]
          refine wpAnyH_done (by kernel_rfl) ?_ _
          go_wp2_with fail
          go_meet
          exact ⟨g7, g8, y, z, KY, rfl, rfl, rfl, yL, zL, hKY, B7, B8, hHeld⟩
    refine AllReadyH.cons (o := ⟨some 7, .alloc 48, 0, "law.go:124", #[], none⟩) rfl (fun K hK => ?_) ?_
    · go_simp
      obtain ⟨g7, v7, hg7, hv7, B7, n7, T', j', z7, kn⟩ := newBlk hHeld hbw T
      (try (have hne : g8 ≠ g7 := (by have := B8.lt; omega)))
      (try replace B8 := B8.nx kn)
      (first | rw [← hg7, ← hv7] | (rw [show w5.drew.heap.size = w5.heap.size from rfl] at hg7; rw [← hg7, show ∀ o, (w5.alloc o).drew = w5.drew.alloc o from fun _ => rfl, ← hv7]))
      clear T hHeld hg7 hv7 kn
      have T := T'
      have hHeld := j'
      clear T' j'
      refine hK.out _ _ (hHeld) (fun hHeld => ?_)
      clear hK K
      try simp only [Act.put, List.setIfInBounds_toArray, List.set_cons_zero, List.set_cons_succ]
      refine wpAnyH_ready (rs := [4, 17]) (by kernel_rfl) (by simp) ?_
      refine AllReadyH.cons (o := ⟨some 31, .call { callee := .value (.func 17), args := #[.tmp 28, .tmp 30], argTypes := #[25, 3] }, 3, "law.go:124", #[⟨1, .data⟩, ⟨3, .data⟩], none⟩) rfl (fun K hK => ?_) ?_
      · go_simp
        refine (next_t (L.length : Int) _ T (by omega) (by omega)).mono ?_
        rintro e x4 ⟨r, rfl, r0, r1, T4, kk⟩
        clear T
        have T := T4
        have hHeld := hHeld.nxb kk
        (try replace B7 := B7.nxb n7 kk)
        (try replace B8 := B8.nxb n8 kk)
        obtain ⟨jy, rfl⟩ := Int.eq_ofNat_of_zero_le r0
        have hjy : jy < L.length := by omega
        obtain ⟨_, _, y, he, hx1, hy, hc1⟩ := Rd.at SX hjy
        cases he
        have yL := List.mem_of_getElem? hy
        have E1 := Lib.hid (cells_at hx1 hc1)
        clear r0 r1 kk T4 hx1 hy hc1
        refine hK.out _ _ (hHeld) (fun hHeld => ?_)
        clear hK K
        try simp only [Act.put, List.setIfInBounds_toArray, List.set_cons_zero, List.set_cons_succ]
        refine wpAnyH_take (i := 5) (oi := ⟨some 32, .indexAddr 23 (.tmp 27) (.tmp 31), 0, "law.go:124", #[⟨0, .data⟩, ⟨4, .data⟩], none⟩) (v := ?_) rfl (by kernel_rfl) (by kernel_rfl) (by kernel_rfl) (fun _ _ _ h => h) (Or.inl ⟨by rfl, ?hyr1x5q1152⟩) (by assumption) ?restr1x5q1152
        case hyr1x5q1152 => intro wq hSw; (go_simp); (try with_reducible rfl)
        try simp only [Act.put, List.setIfInBounds_toArray, List.set_cons_zero, List.set_cons_succ]
        refine wpAnyH_take (i := 6) (oi := ⟨some 33, .load 48 (.tmp 32), 48, "law.go:124", #[⟨5, .data⟩], none⟩) (v := ?_) rfl (by kernel_rfl) (by kernel_rfl) (by kernel_rfl) (fun _ _ _ h => h) (Or.inl ⟨by rfl, ?hyr1x6q1155⟩) (by assumption) ?restr1x6q1155
        case hyr1x6q1155 => intro wq hSw; ((obtain ⟨c0, c1, c2⟩ := E1.out _ hSw); go_simp); (try with_reducible rfl)
        try simp only [Act.put, List.setIfInBounds_toArray, List.set_cons_zero, List.set_cons_succ]
        refine wpAnyH_ready (rs := [11, 17]) (by kernel_rfl) (by simp) ?_
        refine AllReadyH.cons (o := ⟨some 38, .call { callee := .value (.func 17), args := #[.tmp 35, .tmp 37], argTypes := #[25, 3] }, 3, "law.go:124", #[⟨8, .data⟩, ⟨10, .data⟩, ⟨4, .chain⟩], none⟩) rfl (fun K hK => ?_) ?_
        · go_simp
          refine (next_t (L.length : Int) _ T (by omega) (by omega)).mono ?_
          rintro e x4 ⟨r, rfl, r0, r1, T4, kk⟩
          clear T
          have T := T4
          have hHeld := hHeld.nxb kk
          (try replace B7 := B7.nxb n7 kk)
          (try replace B8 := B8.nxb n8 kk)
          obtain ⟨jz, rfl⟩ := Int.eq_ofNat_of_zero_le r0
          have hjz : jz < L.length := by omega
          obtain ⟨_, _, z, he, hx1, hy, hc1⟩ := Rd.at SX hjz
          cases he
          have zL := List.mem_of_getElem? hy
          have E2 := Lib.hid (cells_at hx1 hc1)
          clear r0 r1 kk T4 hx1 hy hc1
          refine hK.out _ _ (hHeld) (fun hHeld => ?_)
          clear hK K
          try simp only [Act.put, List.setIfInBounds_toArray, List.set_cons_zero, List.set_cons_succ]
          refine wpAnyH_take (i := 12) (oi := ⟨some 39, .indexAddr 23 (.tmp 34) (.tmp 38), 0, "law.go:124", #[⟨7, .data⟩, ⟨11, .data⟩, { on := 18, ground := Ground.gcOnly Departure.lateStores }], none⟩) (v := ?_) rfl (by kernel_rfl) (by kernel_rfl) (by kernel_rfl) (fun _ _ _ h => h) (Or.inl ⟨by rfl, ?hyr1x12q1178⟩) (by assumption) ?restr1x12q1178
          case hyr1x12q1178 => intro wq hSw; (go_simp); (try with_reducible rfl)
          try simp only [Act.put, List.setIfInBounds_toArray, List.set_cons_zero, List.set_cons_succ]
          refine wpAnyH_take (i := 13) (oi := ⟨some 40, .load 48 (.tmp 39), 48, "law.go:124", #[⟨12, .data⟩, { on := 18, ground := Ground.gcOnly Departure.lateStores }], none⟩) (v := ?_) rfl (by kernel_rfl) (by kernel_rfl) (by kernel_rfl) (fun _ _ _ h => h) (Or.inl ⟨by rfl, ?hyr1x13q1181⟩) (by assumption) ?restr1x13q1181
          case hyr1x13q1181 => intro wq hSw; ((obtain ⟨c0, c1, c2⟩ := E2.out _ hSw); go_simp); (try with_reducible rfl)
          try simp only [Act.put, List.setIfInBounds_toArray, List.set_cons_zero, List.set_cons_succ]
          refine wpAnyH_ready (rs := [15, 17]) (by kernel_rfl) (by simp) ?_
          refine AllReadyH.cons (o := ⟨some 42, .call { callee := .value (.func 34), args := #[.tmp 41], argTypes := #[25] }, 9, "law.go:124", #[⟨14, .data⟩, ⟨11, .chain⟩], none⟩) rfl (fun K hK => ?_) ?_
          · go_simp
            refine (key_t _ T (L1.out.nxb hgl hHeld) hgl).mono ?_
            rintro e x6 ⟨KY, rfl, hKY, T6, kk⟩
            clear T
            have T := T6
            have hHeld := hHeld.nxb kk
            (try replace B7 := B7.nxb n7 kk)
            (try replace B8 := B8.nxb n8 kk)
            clear kk T6
            refine hK.out _ _ (hHeld) (fun hHeld => ?_)
            clear hK K
            try simp only [Act.put, List.setIfInBounds_toArray, List.set_cons_zero, List.set_cons_succ]
            refine wpAnyH_ready (rs := [17]) (by kernel_rfl) (by simp) ?_
            refine AllReadyH.cons (o := ⟨some 8, .alloc 48, 0, "law.go:124", #[], none⟩) rfl (fun K hK => ?_) AllReadyH.nil
            go_simp
            obtain ⟨g8, v8, hg8, hv8, B8, n8, T', j', z8, kn⟩ := newBlk hHeld hbw T
            (try (have hne : g8 ≠ g7 := (by have := B7.lt; omega)))
            (try replace B7 := B7.nx kn)
            (first | rw [← hg8, ← hv8] | (rw [show w5.drew.heap.size = w5.heap.size from rfl] at hg8; rw [← hg8, show ∀ o, (w5.alloc o).drew = w5.drew.alloc o from fun _ => rfl, ← hv8]))
            clear T hHeld hg8 hv8 kn
            have T := T'
            have hHeld := j'
            clear T' j'
            refine hK.out _ _ (hHeld) (fun hHeld => ?_)
            clear hK K
            try simp only [Act.put, List.setIfInBounds_toArray, List.set_cons_zero, List.set_cons_succ]
            refine wpAnyH_ready (rs := [18]) (by kernel_rfl) (by simp) ?_
            refine AllReadyH.cons (o := ⟨none, .store 48 (.tmp 7) (.tmp 33), 0, "law.go:124", #[⟨16, .data⟩, ⟨6, .data⟩, ⟨15, .chain⟩, ⟨0, .phase⟩, ⟨1, .phase⟩, ⟨2, .phase⟩, ⟨3, .phase⟩, ⟨4, .phase⟩, ⟨5, .phase⟩, ⟨6, .phase⟩, { on := 7, ground := Ground.textOnly Departure.lateStores }, { on := 8, ground := Ground.textOnly Departure.lateStores }, { on := 9, ground := Ground.textOnly Departure.lateStores }, { on := 10, ground := Ground.textOnly Departure.lateStoresUnsure }, { on := 11, ground := Ground.textOnly Departure.lateStoresUnsure }, { on := 12, ground := Ground.textOnly Departure.lateStores }, { on := 13, ground := Ground.textOnly Departure.lateStores }, { on := 14, ground := Ground.textOnly Departure.lateStores }, { on := 15, ground := Ground.textOnly Departure.lateStoresUnsure }, ⟨16, .phase⟩, ⟨17, .phase⟩], none⟩) rfl (fun K hK => ?_) AllReadyH.nil
            have r0 := B7.free 0
            have r1 := B7.free 1
            have r2 := B7.free 2
            have q0 := B7.cell 0 _ rfl
            have q1 := B7.cell 1 _ rfl
            have q2 := B7.cell 2 _ rfl
            have hl := B7.lt
            go_simp
            obtain ⟨v9, hv9, j', B', Bo⟩ := stoBlk B7 hHeld z7 B8 hne (.int .i64 y.id) (.string y.key) (.int .u32 y.word)
            rw [← hv9]
            clear r0 r1 r2 q0 q1 q2 hl hHeld hv9
            have hHeld := j'
            replace B7 := B'
            replace B8 := Bo
            clear j' B' Bo
            refine hK.out _ _ (hHeld) (fun hHeld => ?_)
            clear hK K
            try simp only [Act.put, List.setIfInBounds_toArray, List.set_cons_zero, List.set_cons_succ]
            refine wpAnyH_ready (rs := [19]) (by kernel_rfl) (by simp) ?_
            refine AllReadyH.cons (o := ⟨none, .store 48 (.tmp 8) (.tmp 40), 0, "law.go:124", #[⟨17, .data⟩, ⟨13, .data⟩, ⟨18, .chain⟩, ⟨0, .phase⟩, ⟨1, .phase⟩, ⟨2, .phase⟩, ⟨3, .phase⟩, ⟨4, .phase⟩, ⟨5, .phase⟩, ⟨6, .phase⟩, ⟨7, .phase⟩, ⟨8, .phase⟩, ⟨9, .phase⟩, ⟨10, .phase⟩, ⟨11, .phase⟩, ⟨12, .phase⟩, ⟨13, .phase⟩, { on := 14, ground := Ground.textOnly Departure.lateStores }, { on := 15, ground := Ground.textOnly Departure.lateStoresUnsure }, ⟨16, .phase⟩, ⟨17, .phase⟩, ⟨18, .phase⟩], none⟩) rfl (fun K hK => ?_) AllReadyH.nil
            have r0 := B8.free 0
            have r1 := B8.free 1
            have r2 := B8.free 2
            have q0 := B8.cell 0 _ rfl
            have q1 := B8.cell 1 _ rfl
            have q2 := B8.cell 2 _ rfl
            have hl := B8.lt
            go_simp
            obtain ⟨v9, hv9, j', B', Bo⟩ := stoBlk B8 hHeld z8 B7 (Ne.symm hne) (.int .i64 z.id) (.string z.key) (.int .u32 z.word)
            rw [← hv9]
            clear r0 r1 r2 q0 q1 q2 hl hHeld hv9
            have hHeld := j'
            replace B8 := B'
            replace B7 := Bo
            clear j' B' Bo
            refine hK.out _ _ (hHeld) (fun hHeld => ?_)
            clear hK K
            try simp only [Act.put, List.setIfInBounds_toArray, List.set_cons_zero, List.set_cons_succ]
            refine wpAnyH_take (i := 20) (oi := ⟨some 9, .assign (.tmp 42), 9, "law.go:124", #[⟨15, .data⟩, ⟨19, .chain⟩, ⟨0, .phase⟩, ⟨1, .phase⟩, ⟨2, .phase⟩, ⟨3, .phase⟩, ⟨4, .phase⟩, ⟨5, .phase⟩, ⟨6, .phase⟩, ⟨7, .phase⟩, ⟨8, .phase⟩, ⟨9, .phase⟩, ⟨10, .phase⟩, ⟨11, .phase⟩, ⟨12, .phase⟩, ⟨13, .phase⟩, ⟨14, .phase⟩, ⟨15, .phase⟩, ⟨16, .phase⟩, ⟨17, .phase⟩, ⟨18, .phase⟩, ⟨19, .phase⟩], none⟩) (v := ?_) rfl (by kernel_rfl) (by kernel_rfl) (by kernel_rfl) (fun _ _ _ h => h) (Or.inl ⟨by rfl, ?hyr1x20q1252⟩) (by assumption) ?restr1x20q1252
            case hyr1x20q1252 => intro wq hSw; (go_simp); (try with_reducible rfl)
            try simp only [Act.put, List.setIfInBounds_toArray, List.set_cons_zero, List.set_cons_succ]
            refine wpAnyH_done (by kernel_rfl) ?_ _
            go_wp2_with fail
            go_meet
            exact ⟨g7, g8, y, z, KY, rfl, rfl, rfl, yL, zL, hKY, B7, B8, hHeld⟩
          refine AllReadyH.cons (o := ⟨some 8, .alloc 48, 0, "law.go:124", #[], none⟩) rfl (fun K hK => ?_) AllReadyH.nil
          · go_simp
            obtain ⟨g8, v8, hg8, hv8, B8, n8, T', j', z8, kn⟩ := newBlk hHeld hbw T
            (try (have hne : g8 ≠ g7 := (by have := B7.lt; omega)))
            (try replace B7 := B7.nx kn)
            (first | rw [← hg8, ← hv8] | (rw [show w5.drew.heap.size = w5.heap.size from rfl] at hg8; rw [← hg8, show ∀ o, (w5.alloc o).drew = w5.drew.alloc o from fun _ => rfl, ← hv8]))
            clear T hHeld hg8 hv8 kn
            have T := T'
            have hHeld := j'
            clear T' j'
            refine hK.out _ _ (hHeld) (fun hHeld => ?_)
            clear hK K
            try simp only [Act.put, List.setIfInBounds_toArray, List.set_cons_zero, List.set_cons_succ]
            refine wpAnyH_ready (rs := [15]) (by kernel_rfl) (by simp) ?_
            refine AllReadyH.cons (o := ⟨some 42, .call { callee := .value (.func 34), args := #[.tmp 41], argTypes := #[25] }, 9, "law.go:124", #[⟨14, .data⟩, ⟨11, .chain⟩], none⟩) rfl (fun K hK => ?_) AllReadyH.nil
            go_simp
            refine (key_t _ T (L1.out.nxb hgl hHeld) hgl).mono ?_
            rintro e x6 ⟨KY, rfl, hKY, T6, kk⟩
            clear T
            have T := T6
            have hHeld := hHeld.nxb kk
            (try replace B7 := B7.nxb n7 kk)
            (try replace B8 := B8.nxb n8 kk)
            clear kk T6
            refine hK.out _ _ (hHeld) (fun hHeld => ?_)
            clear hK K
            try simp only [Act.put, List.setIfInBounds_toArray, List.set_cons_zero, List.set_cons_succ]
            refine wpAnyH_ready (rs := [18]) (by kernel_rfl) (by simp) ?_
            refine AllReadyH.cons (o := ⟨none, .store 48 (.tmp 7) (.tmp 33), 0, "law.go:124", #[⟨16, .data⟩, ⟨6, .data⟩, ⟨15, .chain⟩, ⟨0, .phase⟩, ⟨1, .phase⟩, ⟨2, .phase⟩, ⟨3, .phase⟩, ⟨4, .phase⟩, ⟨5, .phase⟩, ⟨6, .phase⟩, { on := 7, ground := Ground.textOnly Departure.lateStores }, { on := 8, ground := Ground.textOnly Departure.lateStores }, { on := 9, ground := Ground.textOnly Departure.lateStores }, { on := 10, ground := Ground.textOnly Departure.lateStoresUnsure }, { on := 11, ground := Ground.textOnly Departure.lateStoresUnsure }, { on := 12, ground := Ground.textOnly Departure.lateStores }, { on := 13, ground := Ground.textOnly Departure.lateStores }, { on := 14, ground := Ground.textOnly Departure.lateStores }, { on := 15, ground := Ground.textOnly Departure.lateStoresUnsure }, ⟨16, .phase⟩, ⟨17, .phase⟩], none⟩) rfl (fun K hK => ?_) AllReadyH.nil
            have r0 := B7.free 0
            have r1 := B7.free 1
            have r2 := B7.free 2
            have q0 := B7.cell 0 _ rfl
            have q1 := B7.cell 1 _ rfl
            have q2 := B7.cell 2 _ rfl
            have hl := B7.lt
            go_simp
            obtain ⟨v9, hv9, j', B', Bo⟩ := stoBlk B7 hHeld z7 B8 hne (.int .i64 y.id) (.string y.key) (.int .u32 y.word)
            rw [← hv9]
            clear r0 r1 r2 q0 q1 q2 hl hHeld hv9
            have hHeld := j'
            replace B7 := B'
            replace B8 := Bo
            clear j' B' Bo
            refine hK.out _ _ (hHeld) (fun hHeld => ?_)
            clear hK K
            try simp only [Act.put, List.setIfInBounds_toArray, List.set_cons_zero, List.set_cons_succ]
            refine wpAnyH_ready (rs := [19]) (by kernel_rfl) (by simp) ?_
            refine AllReadyH.cons (o := ⟨none, .store 48 (.tmp 8) (.tmp 40), 0, "law.go:124", #[⟨17, .data⟩, ⟨13, .data⟩, ⟨18, .chain⟩, ⟨0, .phase⟩, ⟨1, .phase⟩, ⟨2, .phase⟩, ⟨3, .phase⟩, ⟨4, .phase⟩, ⟨5, .phase⟩, ⟨6, .phase⟩, ⟨7, .phase⟩, ⟨8, .phase⟩, ⟨9, .phase⟩, ⟨10, .phase⟩, ⟨11, .phase⟩, ⟨12, .phase⟩, ⟨13, .phase⟩, { on := 14, ground := Ground.textOnly Departure.lateStores }, { on := 15, ground := Ground.textOnly Departure.lateStoresUnsure }, ⟨16, .phase⟩, ⟨17, .phase⟩, ⟨18, .phase⟩], none⟩) rfl (fun K hK => ?_) AllReadyH.nil
            have r0 := B8.free 0
            have r1 := B8.free 1
            have r2 := B8.free 2
            have q0 := B8.cell 0 _ rfl
            have q1 := B8.cell 1 _ rfl
            have q2 := B8.cell 2 _ rfl
            have hl := B8.lt
            go_simp
            obtain ⟨v9, hv9, j', B', Bo⟩ := stoBlk B8 hHeld z8 B7 (Ne.symm hne) (.int .i64 z.id) (.string z.key) (.int .u32 z.word)
            rw [← hv9]
            clear r0 r1 r2 q0 q1 q2 hl hHeld hv9
            have hHeld := j'
            replace B8 := B'
            replace B7 := Bo
            clear j' B' Bo
            refine hK.out _ _ (hHeld) (fun hHeld => ?_)
            clear hK K
            try simp only [Act.put, List.setIfInBounds_toArray, List.set_cons_zero, List.set_cons_succ]
            refine wpAnyH_take (i := 20) (oi := ⟨some 9, .assign (.tmp 42), 9, "law.go:124", #[⟨15, .data⟩, ⟨19, .chain⟩, ⟨0, .phase⟩, ⟨1, .phase⟩, ⟨2, .phase⟩, ⟨3, .phase⟩, ⟨4, .phase⟩, ⟨5, .phase⟩, ⟨6, .phase⟩, ⟨7, .phase⟩, ⟨8, .phase⟩, ⟨9, .phase⟩, ⟨10, .phase⟩, ⟨11, .phase⟩, ⟨12, .phase⟩, ⟨13, .phase⟩, ⟨14, .phase⟩, ⟨15, .phase⟩, ⟨16, .phase⟩, ⟨17, .phase⟩, ⟨18, .phase⟩, ⟨19, .phase⟩], none⟩) (v := ?_) rfl (by kernel_rfl) (by kernel_rfl) (by kernel_rfl) (fun _ _ _ h => h) (Or.inl ⟨by rfl, ?hyr1x20q1324⟩) (by assumption) ?restr1x20q1324
            case hyr1x20q1324 => intro wq hSw; (go_simp); (try with_reducible rfl)
            try simp only [Act.put, List.setIfInBounds_toArray, List.set_cons_zero, List.set_cons_succ]
            refine wpAnyH_done (by kernel_rfl) ?_ _
            go_wp2_with fail
            go_meet
            exact ⟨g7, g8, y, z, KY, rfl, rfl, rfl, yL, zL, hKY, B7, B8, hHeld⟩
        refine AllReadyH.cons (o := ⟨some 8, .alloc 48, 0, "law.go:124", #[], none⟩) rfl (fun K hK => ?_) AllReadyH.nil
        · go_simp
          obtain ⟨g8, v8, hg8, hv8, B8, n8, T', j', z8, kn⟩ := newBlk hHeld hbw T
          (try (have hne : g8 ≠ g7 := (by have := B7.lt; omega)))
          (try replace B7 := B7.nx kn)
          (first | rw [← hg8, ← hv8] | (rw [show w5.drew.heap.size = w5.heap.size from rfl] at hg8; rw [← hg8, show ∀ o, (w5.alloc o).drew = w5.drew.alloc o from fun _ => rfl, ← hv8]))
          clear T hHeld hg8 hv8 kn
          have T := T'
          have hHeld := j'
          clear T' j'
          refine hK.out _ _ (hHeld) (fun hHeld => ?_)
          clear hK K
          try simp only [Act.put, List.setIfInBounds_toArray, List.set_cons_zero, List.set_cons_succ]
          refine wpAnyH_ready (rs := [11]) (by kernel_rfl) (by simp) ?_
          refine AllReadyH.cons (o := ⟨some 38, .call { callee := .value (.func 17), args := #[.tmp 35, .tmp 37], argTypes := #[25, 3] }, 3, "law.go:124", #[⟨8, .data⟩, ⟨10, .data⟩, ⟨4, .chain⟩], none⟩) rfl (fun K hK => ?_) AllReadyH.nil
          go_simp
          refine (next_t (L.length : Int) _ T (by omega) (by omega)).mono ?_
          rintro e x4 ⟨r, rfl, r0, r1, T4, kk⟩
          clear T
          have T := T4
          have hHeld := hHeld.nxb kk
          (try replace B7 := B7.nxb n7 kk)
          (try replace B8 := B8.nxb n8 kk)
          obtain ⟨jz, rfl⟩ := Int.eq_ofNat_of_zero_le r0
          have hjz : jz < L.length := by omega
          obtain ⟨_, _, z, he, hx1, hy, hc1⟩ := Rd.at SX hjz
          cases he
          have zL := List.mem_of_getElem? hy
          have E2 := Lib.hid (cells_at hx1 hc1)
          clear r0 r1 kk T4 hx1 hy hc1
          refine hK.out _ _ (hHeld) (fun hHeld => ?_)
          clear hK K
          try simp only [Act.put, List.setIfInBounds_toArray, List.set_cons_zero, List.set_cons_succ]
          refine wpAnyH_take (i := 12) (oi := ⟨some 39, .indexAddr 23 (.tmp 34) (.tmp 38), 0, "law.go:124", #[⟨7, .data⟩, ⟨11, .data⟩, { on := 18, ground := Ground.gcOnly Departure.lateStores }], none⟩) (v := ?_) rfl (by kernel_rfl) (by kernel_rfl) (by kernel_rfl) (fun _ _ _ h => h) (Or.inl ⟨by rfl, ?hyr1x12q1362⟩) (by assumption) ?restr1x12q1362
          case hyr1x12q1362 => intro wq hSw; (go_simp); (try with_reducible rfl)
          try simp only [Act.put, List.setIfInBounds_toArray, List.set_cons_zero, List.set_cons_succ]
          refine wpAnyH_take (i := 13) (oi := ⟨some 40, .load 48 (.tmp 39), 48, "law.go:124", #[⟨12, .data⟩, { on := 18, ground := Ground.gcOnly Departure.lateStores }], none⟩) (v := ?_) rfl (by kernel_rfl) (by kernel_rfl) (by kernel_rfl) (fun _ _ _ h => h) (Or.inl ⟨by rfl, ?hyr1x13q1365⟩) (by assumption) ?restr1x13q1365
          case hyr1x13q1365 => intro wq hSw; ((obtain ⟨c0, c1, c2⟩ := E2.out _ hSw); go_simp); (try with_reducible rfl)
          try simp only [Act.put, List.setIfInBounds_toArray, List.set_cons_zero, List.set_cons_succ]
          refine wpAnyH_ready (rs := [15]) (by kernel_rfl) (by simp) ?_
          refine AllReadyH.cons (o := ⟨some 42, .call { callee := .value (.func 34), args := #[.tmp 41], argTypes := #[25] }, 9, "law.go:124", #[⟨14, .data⟩, ⟨11, .chain⟩], none⟩) rfl (fun K hK => ?_) AllReadyH.nil
          go_simp
          refine (key_t _ T (L1.out.nxb hgl hHeld) hgl).mono ?_
          rintro e x6 ⟨KY, rfl, hKY, T6, kk⟩
          clear T
          have T := T6
          have hHeld := hHeld.nxb kk
          (try replace B7 := B7.nxb n7 kk)
          (try replace B8 := B8.nxb n8 kk)
          clear kk T6
          refine hK.out _ _ (hHeld) (fun hHeld => ?_)
          clear hK K
          try simp only [Act.put, List.setIfInBounds_toArray, List.set_cons_zero, List.set_cons_succ]
          refine wpAnyH_ready (rs := [18]) (by kernel_rfl) (by simp) ?_
          refine AllReadyH.cons (o := ⟨none, .store 48 (.tmp 7) (.tmp 33), 0, "law.go:124", #[⟨16, .data⟩, ⟨6, .data⟩, ⟨15, .chain⟩, ⟨0, .phase⟩, ⟨1, .phase⟩, ⟨2, .phase⟩, ⟨3, .phase⟩, ⟨4, .phase⟩, ⟨5, .phase⟩, ⟨6, .phase⟩, { on := 7, ground := Ground.textOnly Departure.lateStores }, { on := 8, ground := Ground.textOnly Departure.lateStores }, { on := 9, ground := Ground.textOnly Departure.lateStores }, { on := 10, ground := Ground.textOnly Departure.lateStoresUnsure }, { on := 11, ground := Ground.textOnly Departure.lateStoresUnsure }, { on := 12, ground := Ground.textOnly Departure.lateStores }, { on := 13, ground := Ground.textOnly Departure.lateStores }, { on := 14, ground := Ground.textOnly Departure.lateStores }, { on := 15, ground := Ground.textOnly Departure.lateStoresUnsure }, ⟨16, .phase⟩, ⟨17, .phase⟩], none⟩) rfl (fun K hK => ?_) AllReadyH.nil
          have r0 := B7.free 0
          have r1 := B7.free 1
          have r2 := B7.free 2
          have q0 := B7.cell 0 _ rfl
          have q1 := B7.cell 1 _ rfl
          have q2 := B7.cell 2 _ rfl
          have hl := B7.lt
          go_simp
          obtain ⟨v9, hv9, j', B', Bo⟩ := stoBlk B7 hHeld z7 B8 hne (.int .i64 y.id) (.string y.key) (.int .u32 y.word)
          rw [← hv9]
          clear r0 r1 r2 q0 q1 q2 hl hHeld hv9
          have hHeld := j'
          replace B7 := B'
          replace B8 := Bo
          clear j' B' Bo
          refine hK.out _ _ (hHeld) (fun hHeld => ?_)
          clear hK K
          try simp only [Act.put, List.setIfInBounds_toArray, List.set_cons_zero, List.set_cons_succ]
          refine wpAnyH_ready (rs := [19]) (by kernel_rfl) (by simp) ?_
          refine AllReadyH.cons (o := ⟨none, .store 48 (.tmp 8) (.tmp 40), 0, "law.go:124", #[⟨17, .data⟩, ⟨13, .data⟩, ⟨18, .chain⟩, ⟨0, .phase⟩, ⟨1, .phase⟩, ⟨2, .phase⟩, ⟨3, .phase⟩, ⟨4, .phase⟩, ⟨5, .phase⟩, ⟨6, .phase⟩, ⟨7, .phase⟩, ⟨8, .phase⟩, ⟨9, .phase⟩, ⟨10, .phase⟩, ⟨11, .phase⟩, ⟨12, .phase⟩, ⟨13, .phase⟩, { on := 14, ground := Ground.textOnly Departure.lateStores }, { on := 15, ground := Ground.textOnly Departure.lateStoresUnsure }, ⟨16, .phase⟩, ⟨17, .phase⟩, ⟨18, .phase⟩], none⟩) rfl (fun K hK => ?_) AllReadyH.nil
          have r0 := B8.free 0
          have r1 := B8.free 1
          have r2 := B8.free 2
          have q0 := B8.cell 0 _ rfl
          have q1 := B8.cell 1 _ rfl
          have q2 := B8.cell 2 _ rfl
          have hl := B8.lt
          go_simp
          obtain ⟨v9, hv9, j', B', Bo⟩ := stoBlk B8 hHeld z8 B7 (Ne.symm hne) (.int .i64 z.id) (.string z.key) (.int .u32 z.word)
          rw [← hv9]
          clear r0 r1 r2 q0 q1 q2 hl hHeld hv9
          have hHeld := j'
          replace B8 := B'
          replace B7 := Bo
          clear j' B' Bo
          refine hK.out _ _ (hHeld) (fun hHeld => ?_)
          clear hK K
          try simp only [Act.put, List.setIfInBounds_toArray, List.set_cons_zero, List.set_cons_succ]
          refine wpAnyH_take (i := 20) (oi := ⟨some 9, .assign (.tmp 42), 9, "law.go:124", #[⟨15, .data⟩, ⟨19, .chain⟩, ⟨0, .phase⟩, ⟨1, .phase⟩, ⟨2, .phase⟩, ⟨3, .phase⟩, ⟨4, .phase⟩, ⟨5, .phase⟩, ⟨6, .phase⟩, ⟨7, .phase⟩, ⟨8, .phase⟩, ⟨9, .phase⟩, ⟨10, .phase⟩, ⟨11, .phase⟩, ⟨12, .phase⟩, ⟨13, .phase⟩, ⟨14, .phase⟩, ⟨15, .phase⟩, ⟨16, .phase⟩, ⟨17, .phase⟩, ⟨18, .phase⟩, ⟨19, .phase⟩], none⟩) (v := ?_) rfl (by kernel_rfl) (by kernel_rfl) (by kernel_rfl) (fun _ _ _ h => h) (Or.inl ⟨by rfl, ?hyr1x20q1422⟩) (by assumption) ?restr1x20q1422
          case hyr1x20q1422 => intro wq hSw; (go_simp); (try with_reducible rfl)
          try simp only [Act.put, List.setIfInBounds_toArray, List.set_cons_zero, List.set_cons_succ]
          refine wpAnyH_done (by kernel_rfl) ?_ _
          go_wp2_with fail
          go_meet
          exact ⟨g7, g8, y, z, KY, rfl, rfl, rfl, yL, zL, hKY, B7, B8, hHeld⟩
      refine AllReadyH.cons (o := ⟨some 8, .alloc 48, 0, "law.go:124", #[], none⟩) rfl (fun K hK => ?_) AllReadyH.nil
      · go_simp
        obtain ⟨g8, v8, hg8, hv8, B8, n8, T', j', z8, kn⟩ := newBlk hHeld hbw T
        (try (have hne : g8 ≠ g7 := (by have := B7.lt; omega)))
        (try replace B7 := B7.nx kn)
        (first | rw [← hg8, ← hv8] | (rw [show w5.drew.heap.size = w5.heap.size from rfl] at hg8; rw [← hg8, show ∀ o, (w5.alloc o).drew = w5.drew.alloc o from fun _ => rfl, ← hv8]))
        clear T hHeld hg8 hv8 kn
        have T := T'
        have hHeld := j'
        clear T' j'
        refine hK.out _ _ (hHeld) (fun hHeld => ?_)
        clear hK K
        try simp only [Act.put, List.setIfInBounds_toArray, List.set_cons_zero, List.set_cons_succ]
        refine wpAnyH_ready (rs := [4]) (by kernel_rfl) (by simp) ?_
        refine AllReadyH.cons (o := ⟨some 31, .call { callee := .value (.func 17), args := #[.tmp 28, .tmp 30], argTypes := #[25, 3] }, 3, "law.go:124", #[⟨1, .data⟩, ⟨3, .data⟩], none⟩) rfl (fun K hK => ?_) AllReadyH.nil
        go_simp
        refine (next_t (L.length : Int) _ T (by omega) (by omega)).mono ?_
        rintro e x4 ⟨r, rfl, r0, r1, T4, kk⟩
        clear T
        have T := T4
        have hHeld := hHeld.nxb kk
        (try replace B7 := B7.nxb n7 kk)
        (try replace B8 := B8.nxb n8 kk)
        obtain ⟨jy, rfl⟩ := Int.eq_ofNat_of_zero_le r0
        have hjy : jy < L.length := by omega
        obtain ⟨_, _, y, he, hx1, hy, hc1⟩ := Rd.at SX hjy
        cases he
        have yL := List.mem_of_getElem? hy
        have E1 := Lib.hid (cells_at hx1 hc1)
        clear r0 r1 kk T4 hx1 hy hc1
        refine hK.out _ _ (hHeld) (fun hHeld => ?_)
        clear hK K
        try simp only [Act.put, List.setIfInBounds_toArray, List.set_cons_zero, List.set_cons_succ]
        refine wpAnyH_take (i := 5) (oi := ⟨some 32, .indexAddr 23 (.tmp 27) (.tmp 31), 0, "law.go:124", #[⟨0, .data⟩, ⟨4, .data⟩], none⟩) (v := ?_) rfl (by kernel_rfl) (by kernel_rfl) (by kernel_rfl) (fun _ _ _ h => h) (Or.inl ⟨by rfl, ?hyr1x5q1460⟩) (by assumption) ?restr1x5q1460
        case hyr1x5q1460 => intro wq hSw; (go_simp); (try with_reducible rfl)
        try simp only [Act.put, List.setIfInBounds_toArray, List.set_cons_zero, List.set_cons_succ]
        refine wpAnyH_take (i := 6) (oi := ⟨some 33, .load 48 (.tmp 32), 48, "law.go:124", #[⟨5, .data⟩], none⟩) (v := ?_) rfl (by kernel_rfl) (by kernel_rfl) (by kernel_rfl) (fun _ _ _ h => h) (Or.inl ⟨by rfl, ?hyr1x6q1463⟩) (by assumption) ?restr1x6q1463
        case hyr1x6q1463 => intro wq hSw; ((obtain ⟨c0, c1, c2⟩ := E1.out _ hSw); go_simp); (try with_reducible rfl)
        try simp only [Act.put, List.setIfInBounds_toArray, List.set_cons_zero, List.set_cons_succ]
        refine wpAnyH_ready (rs := [11]) (by kernel_rfl) (by simp) ?_
        refine AllReadyH.cons (o := ⟨some 38, .call { callee := .value (.func 17), args := #[.tmp 35, .tmp 37], argTypes := #[25, 3] }, 3, "law.go:124", #[⟨8, .data⟩, ⟨10, .data⟩, ⟨4, .chain⟩], none⟩) rfl (fun K hK => ?_) AllReadyH.nil
        go_simp
        refine (next_t (L.length : Int) _ T (by omega) (by omega)).mono ?_
        rintro e x4 ⟨r, rfl, r0, r1, T4, kk⟩
        clear T
        have T := T4
        have hHeld := hHeld.nxb kk
        (try replace B7 := B7.nxb n7 kk)
        (try replace B8 := B8.nxb n8 kk)
        obtain ⟨jz, rfl⟩ := Int.eq_ofNat_of_zero_le r0
        have hjz : jz < L.length := by omega
        obtain ⟨_, _, z, he, hx1, hy, hc1⟩ := Rd.at SX hjz
        cases he
        have zL := List.mem_of_getElem? hy
        have E2 := Lib.hid (cells_at hx1 hc1)
        clear r0 r1 kk T4 hx1 hy hc1
        refine hK.out _ _ (hHeld) (fun hHeld => ?_)
        clear hK K
        try simp only [Act.put, List.setIfInBounds_toArray, List.set_cons_zero, List.set_cons_succ]
        refine wpAnyH_take (i := 12) (oi := ⟨some 39, .indexAddr 23 (.tmp 34) (.tmp 38), 0, "law.go:124", #[⟨7, .data⟩, ⟨11, .data⟩, { on := 18, ground := Ground.gcOnly Departure.lateStores }], none⟩) (v := ?_) rfl (by kernel_rfl) (by kernel_rfl) (by kernel_rfl) (fun _ _ _ h => h) (Or.inl ⟨by rfl, ?hyr1x12q1486⟩) (by assumption) ?restr1x12q1486
        case hyr1x12q1486 => intro wq hSw; (go_simp); (try with_reducible rfl)
        try simp only [Act.put, List.setIfInBounds_toArray, List.set_cons_zero, List.set_cons_succ]
        refine wpAnyH_take (i := 13) (oi := ⟨some 40, .load 48 (.tmp 39), 48, "law.go:124", #[⟨12, .data⟩, { on := 18, ground := Ground.gcOnly Departure.lateStores }], none⟩) (v := ?_) rfl (by kernel_rfl) (by kernel_rfl) (by kernel_rfl) (fun _ _ _ h => h) (Or.inl ⟨by rfl, ?hyr1x13q1489⟩) (by assumption) ?restr1x13q1489
        case hyr1x13q1489 => intro wq hSw; ((obtain ⟨c0, c1, c2⟩ := E2.out _ hSw); go_simp); (try with_reducible rfl)
        try simp only [Act.put, List.setIfInBounds_toArray, List.set_cons_zero, List.set_cons_succ]
        refine wpAnyH_ready (rs := [15]) (by kernel_rfl) (by simp) ?_
        refine AllReadyH.cons (o := ⟨some 42, .call { callee := .value (.func 34), args := #[.tmp 41], argTypes := #[25] }, 9, "law.go:124", #[⟨14, .data⟩, ⟨11, .chain⟩], none⟩) rfl (fun K hK => ?_) AllReadyH.nil
        go_simp
        refine (key_t _ T (L1.out.nxb hgl hHeld) hgl).mono ?_
        rintro e x6 ⟨KY, rfl, hKY, T6, kk⟩
        clear T
        have T := T6
        have hHeld := hHeld.nxb kk
        (try replace B7 := B7.nxb n7 kk)
        (try replace B8 := B8.nxb n8 kk)
        clear kk T6
        refine hK.out _ _ (hHeld) (fun hHeld => ?_)
        clear hK K
        try simp only [Act.put, List.setIfInBounds_toArray, List.set_cons_zero, List.set_cons_succ]
        refine wpAnyH_ready (rs := [18]) (by kernel_rfl) (by simp) ?_
        refine AllReadyH.cons (o := ⟨none, .store 48 (.tmp 7) (.tmp 33), 0, "law.go:124", #[⟨16, .data⟩, ⟨6, .data⟩, ⟨15, .chain⟩, ⟨0, .phase⟩, ⟨1, .phase⟩, ⟨2, .phase⟩, ⟨3, .phase⟩, ⟨4, .phase⟩, ⟨5, .phase⟩, ⟨6, .phase⟩, { on := 7, ground := Ground.textOnly Departure.lateStores }, { on := 8, ground := Ground.textOnly Departure.lateStores }, { on := 9, ground := Ground.textOnly Departure.lateStores }, { on := 10, ground := Ground.textOnly Departure.lateStoresUnsure }, { on := 11, ground := Ground.textOnly Departure.lateStoresUnsure }, { on := 12, ground := Ground.textOnly Departure.lateStores }, { on := 13, ground := Ground.textOnly Departure.lateStores }, { on := 14, ground := Ground.textOnly Departure.lateStores }, { on := 15, ground := Ground.textOnly Departure.lateStoresUnsure }, ⟨16, .phase⟩, ⟨17, .phase⟩], none⟩) rfl (fun K hK => ?_) AllReadyH.nil
        have r0 := B7.free 0
        have r1 := B7.free 1
        have r2 := B7.free 2
        have q0 := B7.cell 0 _ rfl
        have q1 := B7.cell 1 _ rfl
        have q2 := B7.cell 2 _ rfl
        have hl := B7.lt
        go_simp
        obtain ⟨v9, hv9, j', B', Bo⟩ := stoBlk B7 hHeld z7 B8 hne (.int .i64 y.id) (.string y.key) (.int .u32 y.word)
        rw [← hv9]
        clear r0 r1 r2 q0 q1 q2 hl hHeld hv9
        have hHeld := j'
        replace B7 := B'
        replace B8 := Bo
        clear j' B' Bo
        refine hK.out _ _ (hHeld) (fun hHeld => ?_)
        clear hK K
        try simp only [Act.put, List.setIfInBounds_toArray, List.set_cons_zero, List.set_cons_succ]
        refine wpAnyH_ready (rs := [19]) (by kernel_rfl) (by simp) ?_
        refine AllReadyH.cons (o := ⟨none, .store 48 (.tmp 8) (.tmp 40), 0, "law.go:124", #[⟨17, .data⟩, ⟨13, .data⟩, ⟨18, .chain⟩, ⟨0, .phase⟩, ⟨1, .phase⟩, ⟨2, .phase⟩, ⟨3, .phase⟩, ⟨4, .phase⟩, ⟨5, .phase⟩, ⟨6, .phase⟩, ⟨7, .phase⟩, ⟨8, .phase⟩, ⟨9, .phase⟩, ⟨10, .phase⟩, ⟨11, .phase⟩, ⟨12, .phase⟩, ⟨13, .phase⟩, { on := 14, ground := Ground.textOnly Departure.lateStores }, { on := 15, ground := Ground.textOnly Departure.lateStoresUnsure }, ⟨16, .phase⟩, ⟨17, .phase⟩, ⟨18, .phase⟩], none⟩) rfl (fun K hK => ?_) AllReadyH.nil
        have r0 := B8.free 0
        have r1 := B8.free 1
        have r2 := B8.free 2
        have q0 := B8.cell 0 _ rfl
        have q1 := B8.cell 1 _ rfl
        have q2 := B8.cell 2 _ rfl
        have hl := B8.lt
        go_simp
        obtain ⟨v9, hv9, j', B', Bo⟩ := stoBlk B8 hHeld z8 B7 (Ne.symm hne) (.int .i64 z.id) (.string z.key) (.int .u32 z.word)
        rw [← hv9]
        clear r0 r1 r2 q0 q1 q2 hl hHeld hv9
        have hHeld := j'
        replace B8 := B'
        replace B7 := Bo
        clear j' B' Bo
        refine hK.out _ _ (hHeld) (fun hHeld => ?_)
        clear hK K
        try simp only [Act.put, List.setIfInBounds_toArray, List.set_cons_zero, List.set_cons_succ]
        refine wpAnyH_take (i := 20) (oi := ⟨some 9, .assign (.tmp 42), 9, "law.go:124", #[⟨15, .data⟩, ⟨19, .chain⟩, ⟨0, .phase⟩, ⟨1, .phase⟩, ⟨2, .phase⟩, ⟨3, .phase⟩, ⟨4, .phase⟩, ⟨5, .phase⟩, ⟨6, .phase⟩, ⟨7, .phase⟩, ⟨8, .phase⟩, ⟨9, .phase⟩, ⟨10, .phase⟩, ⟨11, .phase⟩, ⟨12, .phase⟩, ⟨13, .phase⟩, ⟨14, .phase⟩, ⟨15, .phase⟩, ⟨16, .phase⟩, ⟨17, .phase⟩, ⟨18, .phase⟩, ⟨19, .phase⟩], none⟩) (v := ?_) rfl (by kernel_rfl) (by kernel_rfl) (by kernel_rfl) (fun _ _ _ h => h) (Or.inl ⟨by rfl, ?hyr1x20q1546⟩) (by assumption) ?restr1x20q1546
        case hyr1x20q1546 => intro wq hSw; (go_simp); (try with_reducible rfl)
        try simp only [Act.put, List.setIfInBounds_toArray, List.set_cons_zero, List.set_cons_succ]
        refine wpAnyH_done (by kernel_rfl) ?_ _
        go_wp2_with fail
        go_meet
        exact ⟨g7, g8, y, z, KY, rfl, rfl, rfl, yL, zL, hKY, B7, B8, hHeld⟩
    refine AllReadyH.cons (o := ⟨some 8, .alloc 48, 0, "law.go:124", #[], none⟩) rfl (fun K hK => ?_) AllReadyH.nil
    · go_simp
      obtain ⟨g8, v8, hg8, hv8, B8, n8, T', j', z8, kn⟩ := newBlk hHeld hbw T
      (try (have hne : g8 ≠ g7 := (by have := B7.lt; omega)))
      (try replace B7 := B7.nx kn)
      (first | rw [← hg8, ← hv8] | (rw [show w5.drew.heap.size = w5.heap.size from rfl] at hg8; rw [← hg8, show ∀ o, (w5.alloc o).drew = w5.drew.alloc o from fun _ => rfl, ← hv8]))
      clear T hHeld hg8 hv8 kn
      have T := T'
      have hHeld := j'
      clear T' j'
      refine hK.out _ _ (hHeld) (fun hHeld => ?_)
      clear hK K
      try simp only [Act.put, List.setIfInBounds_toArray, List.set_cons_zero, List.set_cons_succ]
      refine wpAnyH_ready (rs := [4, 16]) (by kernel_rfl) (by simp) ?_
      refine AllReadyH.cons (o := ⟨some 31, .call { callee := .value (.func 17), args := #[.tmp 28, .tmp 30], argTypes := #[25, 3] }, 3, "law.go:124", #[⟨1, .data⟩, ⟨3, .data⟩], none⟩) rfl (fun K hK => ?_) ?_
      · go_simp
        refine (next_t (L.length : Int) _ T (by omega) (by omega)).mono ?_
        rintro e x4 ⟨r, rfl, r0, r1, T4, kk⟩
        clear T
        have T := T4
        have hHeld := hHeld.nxb kk
        (try replace B7 := B7.nxb n7 kk)
        (try replace B8 := B8.nxb n8 kk)
        obtain ⟨jy, rfl⟩ := Int.eq_ofNat_of_zero_le r0
        have hjy : jy < L.length := by omega
        obtain ⟨_, _, y, he, hx1, hy, hc1⟩ := Rd.at SX hjy
        cases he
        have yL := List.mem_of_getElem? hy
        have E1 := Lib.hid (cells_at hx1 hc1)
        clear r0 r1 kk T4 hx1 hy hc1
        refine hK.out _ _ (hHeld) (fun hHeld => ?_)
        clear hK K
        try simp only [Act.put, List.setIfInBounds_toArray, List.set_cons_zero, List.set_cons_succ]
        refine wpAnyH_take (i := 5) (oi := ⟨some 32, .indexAddr 23 (.tmp 27) (.tmp 31), 0, "law.go:124", #[⟨0, .data⟩, ⟨4, .data⟩], none⟩) (v := ?_) rfl (by kernel_rfl) (by kernel_rfl) (by kernel_rfl) (fun _ _ _ h => h) (Or.inl ⟨by rfl, ?hyr1x5q1584⟩) (by assumption) ?restr1x5q1584
        case hyr1x5q1584 => intro wq hSw; (go_simp); (try with_reducible rfl)
        try simp only [Act.put, List.setIfInBounds_toArray, List.set_cons_zero, List.set_cons_succ]
        refine wpAnyH_take (i := 6) (oi := ⟨some 33, .load 48 (.tmp 32), 48, "law.go:124", #[⟨5, .data⟩], none⟩) (v := ?_) rfl (by kernel_rfl) (by kernel_rfl) (by kernel_rfl) (fun _ _ _ h => h) (Or.inl ⟨by rfl, ?hyr1x6q1587⟩) (by assumption) ?restr1x6q1587
        case hyr1x6q1587 => intro wq hSw; ((obtain ⟨c0, c1, c2⟩ := E1.out _ hSw); go_simp); (try with_reducible rfl)
        try simp only [Act.put, List.setIfInBounds_toArray, List.set_cons_zero, List.set_cons_succ]
        refine wpAnyH_ready (rs := [11, 16]) (by kernel_rfl) (by simp) ?_
        refine AllReadyH.cons (o := ⟨some 38, .call { callee := .value (.func 17), args := #[.tmp 35, .tmp 37], argTypes := #[25, 3] }, 3, "law.go:124", #[⟨8, .data⟩, ⟨10, .data⟩, ⟨4, .chain⟩], none⟩) rfl (fun K hK => ?_) ?_
        · go_simp
          refine (next_t (L.length : Int) _ T (by omega) (by omega)).mono ?_
          rintro e x4 ⟨r, rfl, r0, r1, T4, kk⟩
          clear T
          have T := T4
          have hHeld := hHeld.nxb kk
          (try replace B7 := B7.nxb n7 kk)
          (try replace B8 := B8.nxb n8 kk)
          obtain ⟨jz, rfl⟩ := Int.eq_ofNat_of_zero_le r0
          have hjz : jz < L.length := by omega
          obtain ⟨_, _, z, he, hx1, hy, hc1⟩ := Rd.at SX hjz
          cases he
          have zL := List.mem_of_getElem? hy
          have E2 := Lib.hid (cells_at hx1 hc1)
          clear r0 r1 kk T4 hx1 hy hc1
          refine hK.out _ _ (hHeld) (fun hHeld => ?_)
          clear hK K
          try simp only [Act.put, List.setIfInBounds_toArray, List.set_cons_zero, List.set_cons_succ]
          refine wpAnyH_take (i := 12) (oi := ⟨some 39, .indexAddr 23 (.tmp 34) (.tmp 38), 0, "law.go:124", #[⟨7, .data⟩, ⟨11, .data⟩, { on := 18, ground := Ground.gcOnly Departure.lateStores }], none⟩) (v := ?_) rfl (by kernel_rfl) (by kernel_rfl) (by kernel_rfl) (fun _ _ _ h => h) (Or.inl ⟨by rfl, ?hyr1x12q1610⟩) (by assumption) ?restr1x12q1610
          case hyr1x12q1610 => intro wq hSw; (go_simp); (try with_reducible rfl)
          try simp only [Act.put, List.setIfInBounds_toArray, List.set_cons_zero, List.set_cons_succ]
          refine wpAnyH_take (i := 13) (oi := ⟨some 40, .load 48 (.tmp 39), 48, "law.go:124", #[⟨12, .data⟩, { on := 18, ground := Ground.gcOnly Departure.lateStores }], none⟩) (v := ?_) rfl (by kernel_rfl) (by kernel_rfl) (by kernel_rfl) (fun _ _ _ h => h) (Or.inl ⟨by rfl, ?hyr1x13q1613⟩) (by assumption) ?restr1x13q1613
          case hyr1x13q1613 => intro wq hSw; ((obtain ⟨c0, c1, c2⟩ := E2.out _ hSw); go_simp); (try with_reducible rfl)
          try simp only [Act.put, List.setIfInBounds_toArray, List.set_cons_zero, List.set_cons_succ]
          refine wpAnyH_ready (rs := [15, 16]) (by kernel_rfl) (by simp) ?_
          refine AllReadyH.cons (o := ⟨some 42, .call { callee := .value (.func 34), args := #[.tmp 41], argTypes := #[25] }, 9, "law.go:124", #[⟨14, .data⟩, ⟨11, .chain⟩], none⟩) rfl (fun K hK => ?_) ?_
          · go_simp
            refine (key_t _ T (L1.out.nxb hgl hHeld) hgl).mono ?_
            rintro e x6 ⟨KY, rfl, hKY, T6, kk⟩
            clear T
            have T := T6
            have hHeld := hHeld.nxb kk
            (try replace B7 := B7.nxb n7 kk)
            (try replace B8 := B8.nxb n8 kk)
            clear kk T6
            refine hK.out _ _ (hHeld) (fun hHeld => ?_)
            clear hK K
            try simp only [Act.put, List.setIfInBounds_toArray, List.set_cons_zero, List.set_cons_succ]
            refine wpAnyH_ready (rs := [16]) (by kernel_rfl) (by simp) ?_
            refine AllReadyH.cons (o := ⟨some 7, .alloc 48, 0, "law.go:124", #[], none⟩) rfl (fun K hK => ?_) AllReadyH.nil
            go_simp
            obtain ⟨g7, v7, hg7, hv7, B7, n7, T', j', z7, kn⟩ := newBlk hHeld hbw T
            (try (have hne : g8 ≠ g7 := (by have := B8.lt; omega)))
            (try replace B8 := B8.nx kn)
            (first | rw [← hg7, ← hv7] | (rw [show w5.drew.heap.size = w5.heap.size from rfl] at hg7; rw [← hg7, show ∀ o, (w5.alloc o).drew = w5.drew.alloc o from fun _ => rfl, ← hv7]))
            clear T hHeld hg7 hv7 kn
            have T := T'
            have hHeld := j'
            clear T' j'
            refine hK.out _ _ (hHeld) (fun hHeld => ?_)
            clear hK K
            try simp only [Act.put, List.setIfInBounds_toArray, List.set_cons_zero, List.set_cons_succ]
            refine wpAnyH_ready (rs := [18]) (by kernel_rfl) (by simp) ?_
            refine AllReadyH.cons (o := ⟨none, .store 48 (.tmp 7) (.tmp 33), 0, "law.go:124", #[⟨16, .data⟩, ⟨6, .data⟩, ⟨15, .chain⟩, ⟨0, .phase⟩, ⟨1, .phase⟩, ⟨2, .phase⟩, ⟨3, .phase⟩, ⟨4, .phase⟩, ⟨5, .phase⟩, ⟨6, .phase⟩, { on := 7, ground := Ground.textOnly Departure.lateStores }, { on := 8, ground := Ground.textOnly Departure.lateStores }, { on := 9, ground := Ground.textOnly Departure.lateStores }, { on := 10, ground := Ground.textOnly Departure.lateStoresUnsure }, { on := 11, ground := Ground.textOnly Departure.lateStoresUnsure }, { on := 12, ground := Ground.textOnly Departure.lateStores }, { on := 13, ground := Ground.textOnly Departure.lateStores }, { on := 14, ground := Ground.textOnly Departure.lateStores }, { on := 15, ground := Ground.textOnly Departure.lateStoresUnsure }, ⟨16, .phase⟩, ⟨17, .phase⟩], none⟩) rfl (fun K hK => ?_) AllReadyH.nil
            have r0 := B7.free 0
            have r1 := B7.free 1
            have r2 := B7.free 2
            have q0 := B7.cell 0 _ rfl
            have q1 := B7.cell 1 _ rfl
            have q2 := B7.cell 2 _ rfl
            have hl := B7.lt
            go_simp
            obtain ⟨v9, hv9, j', B', Bo⟩ := stoBlk B7 hHeld z7 B8 hne (.int .i64 y.id) (.string y.key) (.int .u32 y.word)
            rw [← hv9]
            clear r0 r1 r2 q0 q1 q2 hl hHeld hv9
            have hHeld := j'
            replace B7 := B'
            replace B8 := Bo
            clear j' B' Bo
            refine hK.out _ _ (hHeld) (fun hHeld => ?_)
            clear hK K
            try simp only [Act.put, List.setIfInBounds_toArray, List.set_cons_zero, List.set_cons_succ]
            refine wpAnyH_ready (rs := [19]) (by kernel_rfl) (by simp) ?_
            refine AllReadyH.cons (o := ⟨none, .store 48 (.tmp 8) (.tmp 40), 0, "law.go:124", #[⟨17, .data⟩, ⟨13, .data⟩, ⟨18, .chain⟩, ⟨0, .phase⟩, ⟨1, .phase⟩, ⟨2, .phase⟩, ⟨3, .phase⟩, ⟨4, .phase⟩, ⟨5, .phase⟩, ⟨6, .phase⟩, ⟨7, .phase⟩, ⟨8, .phase⟩, ⟨9, .phase⟩, ⟨10, .phase⟩, ⟨11, .phase⟩, ⟨12, .phase⟩, ⟨13, .phase⟩, { on := 14, ground := Ground.textOnly Departure.lateStores }, { on := 15, ground := Ground.textOnly Departure.lateStoresUnsure }, ⟨16, .phase⟩, ⟨17, .phase⟩, ⟨18, .phase⟩], none⟩) rfl (fun K hK => ?_) AllReadyH.nil
            have r0 := B8.free 0
            have r1 := B8.free 1
            have r2 := B8.free 2
            have q0 := B8.cell 0 _ rfl
            have q1 := B8.cell 1 _ rfl
            have q2 := B8.cell 2 _ rfl
            have hl := B8.lt
            go_simp
            obtain ⟨v9, hv9, j', B', Bo⟩ := stoBlk B8 hHeld z8 B7 (Ne.symm hne) (.int .i64 z.id) (.string z.key) (.int .u32 z.word)
            rw [← hv9]
            clear r0 r1 r2 q0 q1 q2 hl hHeld hv9
            have hHeld := j'
            replace B8 := B'
            replace B7 := Bo
            clear j' B' Bo
            refine hK.out _ _ (hHeld) (fun hHeld => ?_)
            clear hK K
            try simp only [Act.put, List.setIfInBounds_toArray, List.set_cons_zero, List.set_cons_succ]
            refine wpAnyH_take (i := 20) (oi := ⟨some 9, .assign (.tmp 42), 9, "law.go:124", #[⟨15, .data⟩, ⟨19, .chain⟩, ⟨0, .phase⟩, ⟨1, .phase⟩, ⟨2, .phase⟩, ⟨3, .phase⟩, ⟨4, .phase⟩, ⟨5, .phase⟩, ⟨6, .phase⟩, ⟨7, .phase⟩, ⟨8, .phase⟩, ⟨9, .phase⟩, ⟨10, .phase⟩, ⟨11, .phase⟩, ⟨12, .phase⟩, ⟨13, .phase⟩, ⟨14, .phase⟩, ⟨15, .phase⟩, ⟨16, .phase⟩, ⟨17, .phase⟩, ⟨18, .phase⟩, ⟨19, .phase⟩], none⟩) (v := ?_) rfl (by kernel_rfl) (by kernel_rfl) (by kernel_rfl) (fun _ _ _ h => h) (Or.inl ⟨by rfl, ?hyr1x20q1684⟩) (by assumption) ?restr1x20q1684
            case hyr1x20q1684 => intro wq hSw; (go_simp); (try with_reducible rfl)
            try simp only [Act.put, List.setIfInBounds_toArray, List.set_cons_zero, List.set_cons_succ]
            refine wpAnyH_done (by kernel_rfl) ?_ _
            go_wp2_with fail
            go_meet
            exact ⟨g7, g8, y, z, KY, rfl, rfl, rfl, yL, zL, hKY, B7, B8, hHeld⟩
          refine AllReadyH.cons (o := ⟨some 7, .alloc 48, 0, "law.go:124", #[], none⟩) rfl (fun K hK => ?_) AllReadyH.nil
          · go_simp
            obtain ⟨g7, v7, hg7, hv7, B7, n7, T', j', z7, kn⟩ := newBlk hHeld hbw T
            (try (have hne : g8 ≠ g7 := (by have := B8.lt; omega)))
            (try replace B8 := B8.nx kn)
            (first | rw [← hg7, ← hv7] | (rw [show w5.drew.heap.size = w5.heap.size from rfl] at hg7; rw [← hg7, show ∀ o, (w5.alloc o).drew = w5.drew.alloc o from fun _ => rfl, ← hv7]))
            clear T hHeld hg7 hv7 kn
            have T := T'
            have hHeld := j'
            clear T' j'
            refine hK.out _ _ (hHeld) (fun hHeld => ?_)
            clear hK K
            try simp only [Act.put, List.setIfInBounds_toArray, List.set_cons_zero, List.set_cons_succ]
            refine wpAnyH_ready (rs := [15]) (by kernel_rfl) (by simp) ?_
            refine AllReadyH.cons (o := ⟨some 42, .call { callee := .value (.func 34), args := #[.tmp 41], argTypes := #[25] }, 9, "law.go:124", #[⟨14, .data⟩, ⟨11, .chain⟩], none⟩) rfl (fun K hK => ?_) AllReadyH.nil
            go_simp
            refine (key_t _ T (L1.out.nxb hgl hHeld) hgl).mono ?_
            rintro e x6 ⟨KY, rfl, hKY, T6, kk⟩
            clear T
            have T := T6
            have hHeld := hHeld.nxb kk
            (try replace B7 := B7.nxb n7 kk)
            (try replace B8 := B8.nxb n8 kk)
            clear kk T6
            refine hK.out _ _ (hHeld) (fun hHeld => ?_)
            clear hK K
            try simp only [Act.put, List.setIfInBounds_toArray, List.set_cons_zero, List.set_cons_succ]
            refine wpAnyH_ready (rs := [18]) (by kernel_rfl) (by simp) ?_
            refine AllReadyH.cons (o := ⟨none, .store 48 (.tmp 7) (.tmp 33), 0, "law.go:124", #[⟨16, .data⟩, ⟨6, .data⟩, ⟨15, .chain⟩, ⟨0, .phase⟩, ⟨1, .phase⟩, ⟨2, .phase⟩, ⟨3, .phase⟩, ⟨4, .phase⟩, ⟨5, .phase⟩, ⟨6, .phase⟩, { on := 7, ground := Ground.textOnly Departure.lateStores }, { on := 8, ground := Ground.textOnly Departure.lateStores }, { on := 9, ground := Ground.textOnly Departure.lateStores }, { on := 10, ground := Ground.textOnly Departure.lateStoresUnsure }, { on := 11, ground := Ground.textOnly Departure.lateStoresUnsure }, { on := 12, ground := Ground.textOnly Departure.lateStores }, { on := 13, ground := Ground.textOnly Departure.lateStores }, { on := 14, ground := Ground.textOnly Departure.lateStores }, { on := 15, ground := Ground.textOnly Departure.lateStoresUnsure }, ⟨16, .phase⟩, ⟨17, .phase⟩], none⟩) rfl (fun K hK => ?_) AllReadyH.nil
            have r0 := B7.free 0
            have r1 := B7.free 1
            have r2 := B7.free 2
            have q0 := B7.cell 0 _ rfl
            have q1 := B7.cell 1 _ rfl
            have q2 := B7.cell 2 _ rfl
            have hl := B7.lt
            go_simp
            obtain ⟨v9, hv9, j', B', Bo⟩ := stoBlk B7 hHeld z7 B8 hne (.int .i64 y.id) (.string y.key) (.int .u32 y.word)
            rw [← hv9]
            clear r0 r1 r2 q0 q1 q2 hl hHeld hv9
            have hHeld := j'
            replace B7 := B'
            replace B8 := Bo
            clear j' B' Bo
            refine hK.out _ _ (hHeld) (fun hHeld => ?_)
            clear hK K
            try simp only [Act.put, List.setIfInBounds_toArray, List.set_cons_zero, List.set_cons_succ]
            refine wpAnyH_ready (rs := [19]) (by kernel_rfl) (by simp) ?_
            refine AllReadyH.cons (o := ⟨none, .store 48 (.tmp 8) (.tmp 40), 0, "law.go:124", #[⟨17, .data⟩, ⟨13, .data⟩, ⟨18, .chain⟩, ⟨0, .phase⟩, ⟨1, .phase⟩, ⟨2, .phase⟩, ⟨3, .phase⟩, ⟨4, .phase⟩, ⟨5, .phase⟩, ⟨6, .phase⟩, ⟨7, .phase⟩, ⟨8, .phase⟩, ⟨9, .phase⟩, ⟨10, .phase⟩, ⟨11, .phase⟩, ⟨12, .phase⟩, ⟨13, .phase⟩, { on := 14, ground := Ground.textOnly Departure.lateStores }, { on := 15, ground := Ground.textOnly Departure.lateStoresUnsure }, ⟨16, .phase⟩, ⟨17, .phase⟩, ⟨18, .phase⟩], none⟩) rfl (fun K hK => ?_) AllReadyH.nil
            have r0 := B8.free 0
            have r1 := B8.free 1
            have r2 := B8.free 2
            have q0 := B8.cell 0 _ rfl
            have q1 := B8.cell 1 _ rfl
            have q2 := B8.cell 2 _ rfl
            have hl := B8.lt
            go_simp
            obtain ⟨v9, hv9, j', B', Bo⟩ := stoBlk B8 hHeld z8 B7 (Ne.symm hne) (.int .i64 z.id) (.string z.key) (.int .u32 z.word)
            rw [← hv9]
            clear r0 r1 r2 q0 q1 q2 hl hHeld hv9
            have hHeld := j'
            replace B8 := B'
            replace B7 := Bo
            clear j' B' Bo
            refine hK.out _ _ (hHeld) (fun hHeld => ?_)
            clear hK K
            try simp only [Act.put, List.setIfInBounds_toArray, List.set_cons_zero, List.set_cons_succ]
            refine wpAnyH_take (i := 20) (oi := ⟨some 9, .assign (.tmp 42), 9, "law.go:124", #[⟨15, .data⟩, ⟨19, .chain⟩, ⟨0, .phase⟩, ⟨1, .phase⟩, ⟨2, .phase⟩, ⟨3, .phase⟩, ⟨4, .phase⟩, ⟨5, .phase⟩, ⟨6, .phase⟩, ⟨7, .phase⟩, ⟨8, .phase⟩, ⟨9, .phase⟩, ⟨10, .phase⟩, ⟨11, .phase⟩, ⟨12, .phase⟩, ⟨13, .phase⟩, ⟨14, .phase⟩, ⟨15, .phase⟩, ⟨16, .phase⟩, ⟨17, .phase⟩, ⟨18, .phase⟩, ⟨19, .phase⟩], none⟩) (v := ?_) rfl (by kernel_rfl) (by kernel_rfl) (by kernel_rfl) (fun _ _ _ h => h) (Or.inl ⟨by rfl, ?hyr1x20q1756⟩) (by assumption) ?restr1x20q1756
            case hyr1x20q1756 => intro wq hSw; (go_simp); (try with_reducible rfl)
            try simp only [Act.put, List.setIfInBounds_toArray, List.set_cons_zero, List.set_cons_succ]
            refine wpAnyH_done (by kernel_rfl) ?_ _
            go_wp2_with fail
            go_meet
            exact ⟨g7, g8, y, z, KY, rfl, rfl, rfl, yL, zL, hKY, B7, B8, hHeld⟩
        refine AllReadyH.cons (o := ⟨some 7, .alloc 48, 0, "law.go:124", #[], none⟩) rfl (fun K hK => ?_) AllReadyH.nil
        · go_simp
          obtain ⟨g7, v7, hg7, hv7, B7, n7, T', j', z7, kn⟩ := newBlk hHeld hbw T
          (try (have hne : g8 ≠ g7 := (by have := B8.lt; omega)))
          (try replace B8 := B8.nx kn)
          (first | rw [← hg7, ← hv7] | (rw [show w5.drew.heap.size = w5.heap.size from rfl] at hg7; rw [← hg7, show ∀ o, (w5.alloc o).drew = w5.drew.alloc o from fun _ => rfl, ← hv7]))
          clear T hHeld hg7 hv7 kn
          have T := T'
          have hHeld := j'
          clear T' j'
          refine hK.out _ _ (hHeld) (fun hHeld => ?_)
          clear hK K
          try simp only [Act.put, List.setIfInBounds_toArray, List.set_cons_zero, List.set_cons_succ]
          refine wpAnyH_ready (rs := [11]) (by kernel_rfl) (by simp) ?_
          refine AllReadyH.cons (o := ⟨some 38, .call { callee := .value (.func 17), args := #[.tmp 35, .tmp 37], argTypes := #[25, 3] }, 3, "law.go:124", #[⟨8, .data⟩, ⟨10, .data⟩, ⟨4, .chain⟩], none⟩) rfl (fun K hK => ?_) AllReadyH.nil
          go_simp
          refine (next_t (L.length : Int) _ T (by omega) (by omega)).mono ?_
          rintro e x4 ⟨r, rfl, r0, r1, T4, kk⟩
          clear T
          have T := T4
          have hHeld := hHeld.nxb kk
          (try replace B7 := B7.nxb n7 kk)
          (try replace B8 := B8.nxb n8 kk)
          obtain ⟨jz, rfl⟩ := Int.eq_ofNat_of_zero_le r0
          have hjz : jz < L.length := by omega
          obtain ⟨_, _, z, he, hx1, hy, hc1⟩ := Rd.at SX hjz
          cases he
          have zL := List.mem_of_getElem? hy
          have E2 := Lib.hid (cells_at hx1 hc1)
          clear r0 r1 kk T4 hx1 hy hc1
          refine hK.out _ _ (hHeld) (fun hHeld => ?_)
          clear hK K
          try simp only [Act.put, List.setIfInBounds_toArray, List.set_cons_zero, List.set_cons_succ]
          refine wpAnyH_take (i := 12) (oi := ⟨some 39, .indexAddr 23 (.tmp 34) (.tmp 38), 0, "law.go:124", #[⟨7, .data⟩, ⟨11, .data⟩, { on := 18, ground := Ground.gcOnly Departure.lateStores }], none⟩) (v := ?_) rfl (by kernel_rfl) (by kernel_rfl) (by kernel_rfl) (fun _ _ _ h => h) (Or.inl ⟨by rfl, ?hyr1x12q1794⟩) (by assumption) ?restr1x12q1794
          case hyr1x12q1794 => intro wq hSw; (go_simp); (try with_reducible rfl)
          try simp only [Act.put, List.setIfInBounds_toArray, List.set_cons_zero, List.set_cons_succ]
          refine wpAnyH_take (i := 13) (oi := ⟨some 40, .load 48 (.tmp 39), 48, "law.go:124", #[⟨12, .data⟩, { on := 18, ground := Ground.gcOnly Departure.lateStores }], none⟩) (v := ?_) rfl (by kernel_rfl) (by kernel_rfl) (by kernel_rfl) (fun _ _ _ h => h) (Or.inl ⟨by rfl, ?hyr1x13q1797⟩) (by assumption) ?restr1x13q1797
          case hyr1x13q1797 => intro wq hSw; ((obtain ⟨c0, c1, c2⟩ := E2.out _ hSw); go_simp); (try with_reducible rfl)
          try simp only [Act.put, List.setIfInBounds_toArray, List.set_cons_zero, List.set_cons_succ]
          refine wpAnyH_ready (rs := [15]) (by kernel_rfl) (by simp) ?_
          refine AllReadyH.cons (o := ⟨some 42, .call { callee := .value (.func 34), args := #[.tmp 41], argTypes := #[25] }, 9, "law.go:124", #[⟨14, .data⟩, ⟨11, .chain⟩], none⟩) rfl (fun K hK => ?_) AllReadyH.nil
          go_simp
          refine (key_t _ T (L1.out.nxb hgl hHeld) hgl).mono ?_
          rintro e x6 ⟨KY, rfl, hKY, T6, kk⟩
          clear T
          have T := T6
          have hHeld := hHeld.nxb kk
          (try replace B7 := B7.nxb n7 kk)
          (try replace B8 := B8.nxb n8 kk)
          clear kk T6
          refine hK.out _ _ (hHeld) (fun hHeld => ?_)
          clear hK K
          try simp only [Act.put, List.setIfInBounds_toArray, List.set_cons_zero, List.set_cons_succ]
          refine wpAnyH_ready (rs := [18]) (by kernel_rfl) (by simp) ?_
          refine AllReadyH.cons (o := ⟨none, .store 48 (.tmp 7) (.tmp 33), 0, "law.go:124", #[⟨16, .data⟩, ⟨6, .data⟩, ⟨15, .chain⟩, ⟨0, .phase⟩, ⟨1, .phase⟩, ⟨2, .phase⟩, ⟨3, .phase⟩, ⟨4, .phase⟩, ⟨5, .phase⟩, ⟨6, .phase⟩, { on := 7, ground := Ground.textOnly Departure.lateStores }, { on := 8, ground := Ground.textOnly Departure.lateStores }, { on := 9, ground := Ground.textOnly Departure.lateStores }, { on := 10, ground := Ground.textOnly Departure.lateStoresUnsure }, { on := 11, ground := Ground.textOnly Departure.lateStoresUnsure }, { on := 12, ground := Ground.textOnly Departure.lateStores }, { on := 13, ground := Ground.textOnly Departure.lateStores }, { on := 14, ground := Ground.textOnly Departure.lateStores }, { on := 15, ground := Ground.textOnly Departure.lateStoresUnsure }, ⟨16, .phase⟩, ⟨17, .phase⟩], none⟩) rfl (fun K hK => ?_) AllReadyH.nil
          have r0 := B7.free 0
          have r1 := B7.free 1
          have r2 := B7.free 2
          have q0 := B7.cell 0 _ rfl
          have q1 := B7.cell 1 _ rfl
          have q2 := B7.cell 2 _ rfl
          have hl := B7.lt
          go_simp
          obtain ⟨v9, hv9, j', B', Bo⟩ := stoBlk B7 hHeld z7 B8 hne (.int .i64 y.id) (.string y.key) (.int .u32 y.word)
          rw [← hv9]
          clear r0 r1 r2 q0 q1 q2 hl hHeld hv9
          have hHeld := j'
          replace B7 := B'
          replace B8 := Bo
          clear j' B' Bo
          refine hK.out _ _ (hHeld) (fun hHeld => ?_)
          clear hK K
          try simp only [Act.put, List.setIfInBounds_toArray, List.set_cons_zero, List.set_cons_succ]
          refine wpAnyH_ready (rs := [19]) (by kernel_rfl) (by simp) ?_
          refine AllReadyH.cons (o := ⟨none, .store 48 (.tmp 8) (.tmp 40), 0, "law.go:124", #[⟨17, .data⟩, ⟨13, .data⟩, ⟨18, .chain⟩, ⟨0, .phase⟩, ⟨1, .phase⟩, ⟨2, .phase⟩, ⟨3, .phase⟩, ⟨4, .phase⟩, ⟨5, .phase⟩, ⟨6, .phase⟩, ⟨7, .phase⟩, ⟨8, .phase⟩, ⟨9, .phase⟩, ⟨10, .phase⟩, ⟨11, .phase⟩, ⟨12, .phase⟩, ⟨13, .phase⟩, { on := 14, ground := Ground.textOnly Departure.lateStores }, { on := 15, ground := Ground.textOnly Departure.lateStoresUnsure }, ⟨16, .phase⟩, ⟨17, .phase⟩, ⟨18, .phase⟩], none⟩) rfl (fun K hK => ?_) AllReadyH.nil
          have r0 := B8.free 0
          have r1 := B8.free 1
          have r2 := B8.free 2
          have q0 := B8.cell 0 _ rfl
          have q1 := B8.cell 1 _ rfl
          have q2 := B8.cell 2 _ rfl
          have hl := B8.lt
          go_simp
          obtain ⟨v9, hv9, j', B', Bo⟩ := stoBlk B8 hHeld z8 B7 (Ne.symm hne) (.int .i64 z.id) (.string z.key) (.int .u32 z.word)
          rw [← hv9]
          clear r0 r1 r2 q0 q1 q2 hl hHeld hv9
          have hHeld := j'
          replace B8 := B'
          replace B7 := Bo
          clear j' B' Bo
          refine hK.out _ _ (hHeld) (fun hHeld => ?_)
          clear hK K
          try simp only [Act.put, List.setIfInBounds_toArray, List.set_cons_zero, List.set_cons_succ]
          refine wpAnyH_take (i := 20) (oi := ⟨some 9, .assign (.tmp 42), 9, "law.go:124", #[⟨15, .data⟩, ⟨19, .chain⟩, ⟨0, .phase⟩, ⟨1, .phase⟩, ⟨2, .phase⟩, ⟨3, .phase⟩, ⟨4, .phase⟩, ⟨5, .phase⟩, ⟨6, .phase⟩, ⟨7, .phase⟩, ⟨8, .phase⟩, ⟨9, .phase⟩, ⟨10, .phase⟩, ⟨11, .phase⟩, ⟨12, .phase⟩, ⟨13, .phase⟩, ⟨14, .phase⟩, ⟨15, .phase⟩, ⟨16, .phase⟩, ⟨17, .phase⟩, ⟨18, .phase⟩, ⟨19, .phase⟩], none⟩) (v := ?_) rfl (by kernel_rfl) (by kernel_rfl) (by kernel_rfl) (fun _ _ _ h => h) (Or.inl ⟨by rfl, ?hyr1x20q1854⟩) (by assumption) ?restr1x20q1854
          case hyr1x20q1854 => intro wq hSw; (go_simp); (try with_reducible rfl)
          try simp only [Act.put, List.setIfInBounds_toArray, List.set_cons_zero, List.set_cons_succ]
          refine wpAnyH_done (by kernel_rfl) ?_ _
          go_wp2_with fail
          go_meet
          exact ⟨g7, g8, y, z, KY, rfl, rfl, rfl, yL, zL, hKY, B7, B8, hHeld⟩
      refine AllReadyH.cons (o := ⟨some 7, .alloc 48, 0, "law.go:124", #[], none⟩) rfl (fun K hK => ?_) AllReadyH.nil
      · go_simp
        obtain ⟨g7, v7, hg7, hv7, B7, n7, T', j', z7, kn⟩ := newBlk hHeld hbw T
        (try (have hne : g8 ≠ g7 := (by have := B8.lt; omega)))
        (try replace B8 := B8.nx kn)
        (first | rw [← hg7, ← hv7] | (rw [show w5.drew.heap.size = w5.heap.size from rfl] at hg7; rw [← hg7, show ∀ o, (w5.alloc o).drew = w5.drew.alloc o from fun _ => rfl, ← hv7]))
        clear T hHeld hg7 hv7 kn
        have T := T'
        have hHeld := j'
        clear T' j'
        refine hK.out _ _ (hHeld) (fun hHeld => ?_)
        clear hK K
        try simp only [Act.put, List.setIfInBounds_toArray, List.set_cons_zero, List.set_cons_succ]
        refine wpAnyH_ready (rs := [4]) (by kernel_rfl) (by simp) ?_
        refine AllReadyH.cons (o := ⟨some 31, .call { callee := .value (.func 17), args := #[.tmp 28, .tmp 30], argTypes := #[25, 3] }, 3, "law.go:124", #[⟨1, .data⟩, ⟨3, .data⟩], none⟩) rfl (fun K hK => ?_) AllReadyH.nil
        go_simp
        refine (next_t (L.length : Int) _ T (by omega) (by omega)).mono ?_
        rintro e x4 ⟨r, rfl, r0, r1, T4, kk⟩
        clear T
        have T := T4
        have hHeld := hHeld.nxb kk
        (try replace B7 := B7.nxb n7 kk)
        (try replace B8 := B8.nxb n8 kk)
        obtain ⟨jy, rfl⟩ := Int.eq_ofNat_of_zero_le r0
        have hjy : jy < L.length := by omega
        obtain ⟨_, _, y, he, hx1, hy, hc1⟩ := Rd.at SX hjy
        cases he
        have yL := List.mem_of_getElem? hy
        have E1 := Lib.hid (cells_at hx1 hc1)
        clear r0 r1 kk T4 hx1 hy hc1
        refine hK.out _ _ (hHeld) (fun hHeld => ?_)
        clear hK K
        try simp only [Act.put, List.setIfInBounds_toArray, List.set_cons_zero, List.set_cons_succ]
        refine wpAnyH_take (i := 5) (oi := ⟨some 32, .indexAddr 23 (.tmp 27) (.tmp 31), 0, "law.go:124", #[⟨0, .data⟩, ⟨4, .data⟩], none⟩) (v := ?_) rfl (by kernel_rfl) (by kernel_rfl) (by kernel_rfl) (fun _ _ _ h => h) (Or.inl ⟨by rfl, ?hyr1x5q1892⟩) (by assumption) ?restr1x5q1892
        case hyr1x5q1892 => intro wq hSw; (go_simp); (try with_reducible rfl)
        try simp only [Act.put, List.setIfInBounds_toArray, List.set_cons_zero, List.set_cons_succ]
        refine wpAnyH_take (i := 6) (oi := ⟨some 33, .load 48 (.tmp 32), 48, "law.go:124", #[⟨5, .data⟩], none⟩) (v := ?_) rfl (by kernel_rfl) (by kernel_rfl) (by kernel_rfl) (fun _ _ _ h => h) (Or.inl ⟨by rfl, ?hyr1x6q1895⟩) (by assumption) ?restr1x6q1895
        case hyr1x6q1895 => intro wq hSw; ((obtain ⟨c0, c1, c2⟩ := E1.out _ hSw); go_simp); (try with_reducible rfl)
        try simp only [Act.put, List.setIfInBounds_toArray, List.set_cons_zero, List.set_cons_succ]
        refine wpAnyH_ready (rs := [11]) (by kernel_rfl) (by simp) ?_
        refine AllReadyH.cons (o := ⟨some 38, .call { callee := .value (.func 17), args := #[.tmp 35, .tmp 37], argTypes := #[25, 3] }, 3, "law.go:124", #[⟨8, .data⟩, ⟨10, .data⟩, ⟨4, .chain⟩], none⟩) rfl (fun K hK => ?_) AllReadyH.nil
        go_simp
        refine (next_t (L.length : Int) _ T (by omega) (by omega)).mono ?_
        rintro e x4 ⟨r, rfl, r0, r1, T4, kk⟩
        clear T
        have T := T4
        have hHeld := hHeld.nxb kk
        (try replace B7 := B7.nxb n7 kk)
        (try replace B8 := B8.nxb n8 kk)
        obtain ⟨jz, rfl⟩ := Int.eq_ofNat_of_zero_le r0
        have hjz : jz < L.length := by omega
        obtain ⟨_, _, z, he, hx1, hy, hc1⟩ := Rd.at SX hjz
        cases he
        have zL := List.mem_of_getElem? hy
        have E2 := Lib.hid (cells_at hx1 hc1)
        clear r0 r1 kk T4 hx1 hy hc1
        refine hK.out _ _ (hHeld) (fun hHeld => ?_)
        clear hK K
        try simp only [Act.put, List.setIfInBounds_toArray, List.set_cons_zero, List.set_cons_succ]
        refine wpAnyH_take (i := 12) (oi := ⟨some 39, .indexAddr 23 (.tmp 34) (.tmp 38), 0, "law.go:124", #[⟨7, .data⟩, ⟨11, .data⟩, { on := 18, ground := Ground.gcOnly Departure.lateStores }], none⟩) (v := ?_) rfl (by kernel_rfl) (by kernel_rfl) (by kernel_rfl) (fun _ _ _ h => h) (Or.inl ⟨by rfl, ?hyr1x12q1918⟩) (by assumption) ?restr1x12q1918
        case hyr1x12q1918 => intro wq hSw; (go_simp); (try with_reducible rfl)
        try simp only [Act.put, List.setIfInBounds_toArray, List.set_cons_zero, List.set_cons_succ]
        refine wpAnyH_take (i := 13) (oi := ⟨some 40, .load 48 (.tmp 39), 48, "law.go:124", #[⟨12, .data⟩, { on := 18, ground := Ground.gcOnly Departure.lateStores }], none⟩) (v := ?_) rfl (by kernel_rfl) (by kernel_rfl) (by kernel_rfl) (fun _ _ _ h => h) (Or.inl ⟨by rfl, ?hyr1x13q1921⟩) (by assumption) ?restr1x13q1921
        case hyr1x13q1921 => intro wq hSw; ((obtain ⟨c0, c1, c2⟩ := E2.out _ hSw); go_simp); (try with_reducible rfl)
        try simp only [Act.put, List.setIfInBounds_toArray, List.set_cons_zero, List.set_cons_succ]
        refine wpAnyH_ready (rs := [15]) (by kernel_rfl) (by simp) ?_
        refine AllReadyH.cons (o := ⟨some 42, .call { callee := .value (.func 34), args := #[.tmp 41], argTypes := #[25] }, 9, "law.go:124", #[⟨14, .data⟩, ⟨11, .chain⟩], none⟩) rfl (fun K hK => ?_) AllReadyH.nil
        go_simp
        refine (key_t _ T (L1.out.nxb hgl hHeld) hgl).mono ?_
        rintro e x6 ⟨KY, rfl, hKY, T6, kk⟩
        clear T
        have T := T6
        have hHeld := hHeld.nxb kk
        (try replace B7 := B7.nxb n7 kk)
        (try replace B8 := B8.nxb n8 kk)
        clear kk T6
        refine hK.out _ _ (hHeld) (fun hHeld => ?_)
        clear hK K
        try simp only [Act.put, List.setIfInBounds_toArray, List.set_cons_zero, List.set_cons_succ]
        refine wpAnyH_ready (rs := [18]) (by kernel_rfl) (by simp) ?_
        refine AllReadyH.cons (o := ⟨none, .store 48 (.tmp 7) (.tmp 33), 0, "law.go:124", #[⟨16, .data⟩, ⟨6, .data⟩, ⟨15, .chain⟩, ⟨0, .phase⟩, ⟨1, .phase⟩, ⟨2, .phase⟩, ⟨3, .phase⟩, ⟨4, .phase⟩, ⟨5, .phase⟩, ⟨6, .phase⟩, { on := 7, ground := Ground.textOnly Departure.lateStores }, { on := 8, ground := Ground.textOnly Departure.lateStores }, { on := 9, ground := Ground.textOnly Departure.lateStores }, { on := 10, ground := Ground.textOnly Departure.lateStoresUnsure }, { on := 11, ground := Ground.textOnly Departure.lateStoresUnsure }, { on := 12, ground := Ground.textOnly Departure.lateStores }, { on := 13, ground := Ground.textOnly Departure.lateStores }, { on := 14, ground := Ground.textOnly Departure.lateStores }, { on := 15, ground := Ground.textOnly Departure.lateStoresUnsure }, ⟨16, .phase⟩, ⟨17, .phase⟩], none⟩) rfl (fun K hK => ?_) AllReadyH.nil
        have r0 := B7.free 0
        have r1 := B7.free 1
        have r2 := B7.free 2
        have q0 := B7.cell 0 _ rfl
        have q1 := B7.cell 1 _ rfl
        have q2 := B7.cell 2 _ rfl
        have hl := B7.lt
        go_simp
        obtain ⟨v9, hv9, j', B', Bo⟩ := stoBlk B7 hHeld z7 B8 hne (.int .i64 y.id) (.string y.key) (.int .u32 y.word)
        rw [← hv9]
        clear r0 r1 r2 q0 q1 q2 hl hHeld hv9
        have hHeld := j'
        replace B7 := B'
        replace B8 := Bo
        clear j' B' Bo
        refine hK.out _ _ (hHeld) (fun hHeld => ?_)
        clear hK K
        try simp only [Act.put, List.setIfInBounds_toArray, List.set_cons_zero, List.set_cons_succ]
        refine wpAnyH_ready (rs := [19]) (by kernel_rfl) (by simp) ?_
        refine AllReadyH.cons (o := ⟨none, .store 48 (.tmp 8) (.tmp 40), 0, "law.go:124", #[⟨17, .data⟩, ⟨13, .data⟩, ⟨18, .chain⟩, ⟨0, .phase⟩, ⟨1, .phase⟩, ⟨2, .phase⟩, ⟨3, .phase⟩, ⟨4, .phase⟩, ⟨5, .phase⟩, ⟨6, .phase⟩, ⟨7, .phase⟩, ⟨8, .phase⟩, ⟨9, .phase⟩, ⟨10, .phase⟩, ⟨11, .phase⟩, ⟨12, .phase⟩, ⟨13, .phase⟩, { on := 14, ground := Ground.textOnly Departure.lateStores }, { on := 15, ground := Ground.textOnly Departure.lateStoresUnsure }, ⟨16, .phase⟩, ⟨17, .phase⟩, ⟨18, .phase⟩], none⟩) rfl (fun K hK => ?_) AllReadyH.nil
        have r0 := B8.free 0
        have r1 := B8.free 1
        have r2 := B8.free 2
        have q0 := B8.cell 0 _ rfl
        have q1 := B8.cell 1 _ rfl
        have q2 := B8.cell 2 _ rfl
        have hl := B8.lt
        go_simp
        obtain ⟨v9, hv9, j', B', Bo⟩ := stoBlk B8 hHeld z8 B7 (Ne.symm hne) (.int .i64 z.id) (.string z.key) (.int .u32 z.word)
        rw [← hv9]
        clear r0 r1 r2 q0 q1 q2 hl hHeld hv9
        have hHeld := j'
        replace B8 := B'
        replace B7 := Bo
        clear j' B' Bo
        refine hK.out _ _ (hHeld) (fun hHeld => ?_)
        clear hK K
        try simp only [Act.put, List.setIfInBounds_toArray, List.set_cons_zero, List.set_cons_succ]
        refine wpAnyH_take (i := 20) (oi := ⟨some 9, .assign (.tmp 42), 9, "law.go:124", #[⟨15, .data⟩, ⟨19, .chain⟩, ⟨0, .phase⟩, ⟨1, .phase⟩, ⟨2, .phase⟩, ⟨3, .phase⟩, ⟨4, .phase⟩, ⟨5, .phase⟩, ⟨6, .phase⟩, ⟨7, .phase⟩, ⟨8, .phase⟩, ⟨9, .phase⟩, ⟨10, .phase⟩, ⟨11, .phase⟩, ⟨12, .phase⟩, ⟨13, .phase⟩, ⟨14, .phase⟩, ⟨15, .phase⟩, ⟨16, .phase⟩, ⟨17, .phase⟩, ⟨18, .phase⟩, ⟨19, .phase⟩], none⟩) (v := ?_) rfl (by kernel_rfl) (by kernel_rfl) (by kernel_rfl) (fun _ _ _ h => h) (Or.inl ⟨by rfl, ?hyr1x20q1978⟩) (by assumption) ?restr1x20q1978
        case hyr1x20q1978 => intro wq hSw; (go_simp); (try with_reducible rfl)
        try simp only [Act.put, List.setIfInBounds_toArray, List.set_cons_zero, List.set_cons_succ]
        refine wpAnyH_done (by kernel_rfl) ?_ _
        go_wp2_with fail
        go_meet
        exact ⟨g7, g8, y, z, KY, rfl, rfl, rfl, yL, zL, hKY, B7, B8, hHeld⟩
  case rest =>
    obtain ⟨g7, g8, y, z, KY, rfl, rfl, rfl, yL, zL, hKY, B7, B8, kk⟩ := hcut
    have S := (SX.nxb kk).sl
    have TG := T1.out.nxb hgt kk
    have QX := (QL.out.nxb kk).1
    obtain ⟨aP, cP, rfl, LK, _, _, _, _⟩ := OwnN.nl (encA := encI) (encB := encS) (s1 := 2) (s2 := 2) (fun _ => rfl) (fun _ => rfl) (OWN.out.nxb hb3 kk)
    have LK := Lib.hid LK
    have BS1 := BS.out.1
    clear T SX L1 T1 QL OWN kk
    have b0 := B7.cell 0 _ rfl
    go_wp2_with fail
    (with_reducible refine (route_p _ _ _ _ _ _ _ _ _ _ _ S (by omega) hcX hmX LK.out (by omega) (fun c hc => Nat.le_trans (BS.out.2 c hc) (by omega))).mono ?_)
    rintro e y1 ⟨v1, rfl, own, kk⟩
    replace S := S.nx kk
    replace LK := Lib.hid (LK.out.nx kk)
    replace QX := QX.nx kk
    replace TG := TG.nx kk
    replace B7 := B7.nx kk
    replace B8 := B8.nx kk
    clear kk
    obtain ⟨E1a, E1b, _⟩ := end_law (L := (buildN L (h : Int)).1) RC.out yL hKY (by rw [(build_top RC.out hh yL).1]; omega) (fun x hx => (build_top RC.out hh hx).2 0 (by omega))
    obtain ⟨aH1, cH1, rfl, H1, _, _, _⟩ := own.slf (fun _ => rfl)
    have H1 := H1.sl
    have hl1 := route_small L (buildN L (h : Int)).1 y.id KY
    obtain ⟨R1, hR1⟩ : ∃ R, R = routeN L (buildN L (h : Int)).1 y.id KY := ⟨_, rfl⟩
    rw [← hR1] at H1 hl1 E1a E1b ⊢
    rw [E1a]
    have E1b := Lib.hid E1b
    clear own hR1 E1a
    replace H1 := Lib.hid H1
    clear b0
    have b0 := B8.cell 0 _ rfl
    go_wp2_with fail
    (with_reducible refine (route_p _ _ _ _ _ _ _ _ _ _ _ S (by omega) hcX hmX LK.out (by omega) (fun c hc => Nat.le_trans (BS.out.2 c hc) (by omega))).mono ?_)
    rintro e y2 ⟨v2, rfl, own, kk⟩
    replace S := S.nx kk
    replace LK := Lib.hid (LK.out.nx kk)
    replace QX := QX.nx kk
    replace TG := TG.nx kk
    replace B7 := B7.nx kk
    replace B8 := B8.nx kk
    replace H1 := Lib.hid (H1.out.nx kk)
    clear kk
    obtain ⟨E2a, E2b, _⟩ := end_law (L := (buildN L (h : Int)).1) RC.out zL hKY (by rw [(build_top RC.out hh zL).1]; omega) (fun x hx => (build_top RC.out hh hx).2 0 (by omega))
    obtain ⟨aH2, cH2, rfl, H2, _, _, _⟩ := own.slf (fun _ => rfl)
    have H2 := H2.sl
    have hl2 := route_small L (buildN L (h : Int)).1 z.id KY
    obtain ⟨R2, hR2⟩ : ∃ R, R = routeN L (buildN L (h : Int)).1 z.id KY := ⟨_, rfl⟩
    rw [← hR2] at H2 hl2 E2a E2b ⊢
    rw [E2a]
    have E2b := Lib.hid E2b
    clear own hR2 E2a
    replace H2 := Lib.hid H2
    clear b0
    have b0 := B7.cell 0 _ rfl
    have b1 := B8.cell 1 _ rfl
    have hzk : z.key.size ≤ 64 := (RN.out z zL).2.2.2.1
    go_wp2_with fail
    (with_reducible refine (route_p _ _ _ _ _ _ _ _ _ _ _ S (by omega) hcX hmX LK.out (by omega) (fun c hc => Nat.le_trans (BS.out.2 c hc) (by omega))).mono ?_)
    rintro e y3 ⟨v3, rfl, own, kk⟩
    replace S := S.nx kk
    replace LK := Lib.hid (LK.out.nx kk)
    replace QX := QX.nx kk
    replace TG := TG.nx kk
    replace B7 := B7.nx kk
    replace B8 := B8.nx kk
    replace H1 := Lib.hid (H1.out.nx kk)
    replace H2 := Lib.hid (H2.out.nx kk)
    clear kk
    obtain ⟨E3a, E3b, _⟩ := end_law (L := (buildN L (h : Int)).1) RC.out yL hzk (by rw [(build_top RC.out hh yL).1]; omega) (fun x hx => (build_top RC.out hh hx).2 0 (by omega))
    obtain ⟨aH3, cH3, rfl, H3, _, _, _⟩ := own.slf (fun _ => rfl)
    have H3 := H3.sl
    have hl3 := route_small L (buildN L (h : Int)).1 y.id z.key
    obtain ⟨R3, hR3⟩ : ∃ R, R = routeN L (buildN L (h : Int)).1 y.id z.key := ⟨_, rfl⟩
    rw [← hR3] at H3 hl3 E3a E3b ⊢
    rw [E3a]
    have E3b := Lib.hid E3b
    clear own hR3 E3a
    replace H3 := Lib.hid H3
    have F1 : endN y.id R1.1 = (ownN L KY).1.id := E1b.out
    have F2 : endN z.id R2.1 = (ownN L KY).1.id := E2b.out
    have F3 : endN y.id R3.1 = z.id := by rw [E3b.out, own_self RC.out zL hzk]
    have F1 := Lib.hid F1
    have F2 := Lib.hid F2
    have F3 := Lib.hid F3
    clear b0 b1 S LK
    have HB7 := Lib.hid B7
    have HB8 := Lib.hid B8
    have Q3 := Lib.hid QX
    have TG3 := Lib.hid TG
    clear B7 B8 QX TG
    go_upto_region 8 with fail
    refine wp_region_held_drew (S := Ex y3.drew) (by kernel_rfl) (Ex.refl _) (fun hHeld => ?_)
    refine wpAnyH_take (i := 0) (oi := ⟨some 71, .move (.tmp 6), 35, "law.go:128", #[], none⟩) (v := ?_) rfl (by kernel_rfl) (by kernel_rfl) (by kernel_rfl) (fun _ _ _ h => h) (Or.inl ⟨by rfl, ?hyr2x0⟩) (by assumption) ?restr2x0
    case hyr2x0 => intro wq hSw; (go_simp); (try with_reducible rfl)
    try simp only [Act.put, List.setIfInBounds_toArray, List.set_cons_zero, List.set_cons_succ]
    refine wpAnyH_take (i := 1) (oi := ⟨some 72, .binOp .eql 35 (.tmp 71) (.const (.int .i64 0)) 35, 4, "law.go:128", #[⟨0, .data⟩], none⟩) (v := ?_) rfl (by kernel_rfl) (by kernel_rfl) (by kernel_rfl) (fun _ _ _ h => h) (Or.inl ⟨by rfl, ?hyr2x1⟩) (by assumption) ?restr2x1
    case hyr2x1 => intro wq hSw; (go_simp); (try with_reducible rfl)
    try simp only [Act.put, List.setIfInBounds_toArray, List.set_cons_zero, List.set_cons_succ]
    refine wpAnyH_take (i := 2) (oi := ⟨some 73, .move (.tmp 72), 4, "law.go:128", #[⟨1, .data⟩], none⟩) (v := ?_) rfl (by kernel_rfl) (by kernel_rfl) (by kernel_rfl) (fun _ _ _ h => h) (Or.inl ⟨by rfl, ?hyr2x2⟩) (by assumption) ?restr2x2
    case hyr2x2 => intro wq hSw; (go_simp); (try with_reducible rfl)
    try simp only [Act.put, List.setIfInBounds_toArray, List.set_cons_zero, List.set_cons_succ]
    refine wpAnyH_take (i := 3) (oi := ⟨some 74, .move (.tmp 11), 35, "law.go:128", #[⟨2, .guard⟩], some (2, true)⟩) (v := ?_) rfl (by kernel_rfl) (by kernel_rfl) (by kernel_rfl) (fun _ _ _ h => h) (Or.inl ⟨by rfl, ?hyr2x3⟩) (by assumption) ?restr2x3
    case hyr2x3 => intro wq hSw; (go_simp); (try with_reducible rfl)
    try simp only [Act.put, List.setIfInBounds_toArray, List.set_cons_zero, List.set_cons_succ]
    refine wpAnyH_take (i := 4) (oi := ⟨some 75, .binOp .eql 35 (.tmp 74) (.const (.int .i64 0)) 35, 4, "law.go:128", #[⟨3, .data⟩, ⟨2, .guard⟩], some (2, true)⟩) (v := ?_) rfl (by kernel_rfl) (by kernel_rfl) (by kernel_rfl) (fun _ _ _ h => h) (Or.inl ⟨by rfl, ?hyr2x4⟩) (by assumption) ?restr2x4
    case hyr2x4 => intro wq hSw; (go_simp); (try with_reducible rfl)
    try simp only [Act.put, List.setIfInBounds_toArray, List.set_cons_zero, List.set_cons_succ]
    refine wpAnyH_take (i := 5) (oi := ⟨some 76, .pick (.tmp 73) (.tmp 75) (.const (.bool false)), 4, "law.go:128", #[⟨2, .data⟩, ⟨4, .data⟩], none⟩) (v := ?_) rfl (by kernel_rfl) (by kernel_rfl) (by kernel_rfl) (fun _ _ _ h => h) (Or.inl ⟨by rfl, ?hyr2x5⟩) (by assumption) ?restr2x5
    case hyr2x5 => intro wq hSw; (go_simp); (try with_reducible rfl)
    try simp only [Act.put, List.setIfInBounds_toArray, List.set_cons_zero, List.set_cons_succ]
    refine wpAnyH_take (i := 6) (oi := ⟨some 77, .move (.tmp 76), 4, "law.go:128", #[⟨5, .data⟩, ⟨2, .chain⟩], none⟩) (v := ?_) rfl (by kernel_rfl) (by kernel_rfl) (by kernel_rfl) (fun _ _ _ h => h) (Or.inl ⟨by rfl, ?hyr2x6⟩) (by assumption) ?restr2x6
    case hyr2x6 => intro wq hSw; (go_simp); (try with_reducible rfl)
    try simp only [Act.put, List.setIfInBounds_toArray, List.set_cons_zero, List.set_cons_succ]
    refine wpAnyH_take (i := 7) (oi := ⟨some 78, .move (.tmp 13), 35, "law.go:128", #[⟨6, .guard⟩], some (6, true)⟩) (v := ?_) rfl (by kernel_rfl) (by kernel_rfl) (by kernel_rfl) (fun _ _ _ h => h) (Or.inl ⟨by rfl, ?hyr2x7⟩) (by assumption) ?restr2x7
    case hyr2x7 => intro wq hSw; (go_simp); (try with_reducible rfl)
    try simp only [Act.put, List.setIfInBounds_toArray, List.set_cons_zero, List.set_cons_succ]
    refine wpAnyH_take (i := 8) (oi := ⟨some 79, .binOp .eql 35 (.tmp 78) (.const (.int .i64 0)) 35, 4, "law.go:128", #[⟨7, .data⟩, ⟨6, .guard⟩], some (6, true)⟩) (v := ?_) rfl (by kernel_rfl) (by kernel_rfl) (by kernel_rfl) (fun _ _ _ h => h) (Or.inl ⟨by rfl, ?hyr2x8⟩) (by assumption) ?restr2x8
    case hyr2x8 => intro wq hSw; (go_simp); (try with_reducible rfl)
    try simp only [Act.put, List.setIfInBounds_toArray, List.set_cons_zero, List.set_cons_succ]
    refine wpAnyH_take (i := 9) (oi := ⟨some 80, .pick (.tmp 77) (.tmp 79) (.const (.bool false)), 4, "law.go:128", #[⟨6, .data⟩, ⟨8, .data⟩], none⟩) (v := ?_) rfl (by kernel_rfl) (by kernel_rfl) (by kernel_rfl) (fun _ _ _ h => h) (Or.inl ⟨by rfl, ?hyr2x9⟩) (by assumption) ?restr2x9
    case hyr2x9 => intro wq hSw; (go_simp); (try with_reducible rfl)
    try simp only [Act.put, List.setIfInBounds_toArray, List.set_cons_zero, List.set_cons_succ]
    refine wpAnyH_take (i := 10) (oi := ⟨some 81, .move (.tmp 80), 4, "law.go:128", #[⟨9, .data⟩, ⟨6, .chain⟩], none⟩) (v := ?_) rfl (by kernel_rfl) (by kernel_rfl) (by kernel_rfl) (fun _ _ _ h => h) (Or.inl ⟨by rfl, ?hyr2x10⟩) (by assumption) ?restr2x10
    case hyr2x10 => intro wq hSw; (go_simp); (try with_reducible rfl)
    try simp only [Act.put, List.setIfInBounds_toArray, List.set_cons_zero, List.set_cons_succ]
    refine wpAnyH_take (i := 11) (oi := ⟨some 82, .move (.tmp 15), 35, "law.go:128", #[⟨10, .guard⟩], some (10, true)⟩) (v := ?_) rfl (by kernel_rfl) (by kernel_rfl) (by kernel_rfl) (fun _ _ _ h => h) (Or.inl ⟨by rfl, ?hyr2x11⟩) (by assumption) ?restr2x11
    case hyr2x11 => intro wq hSw; (go_simp); (try with_reducible rfl)
    try simp only [Act.put, List.setIfInBounds_toArray, List.set_cons_zero, List.set_cons_succ]
    refine wpAnyH_take (i := 12) (oi := ⟨some 83, .binOp .eql 35 (.tmp 82) (.const (.int .i64 0)) 35, 4, "law.go:128", #[⟨11, .data⟩, ⟨10, .guard⟩], some (10, true)⟩) (v := ?_) rfl (by kernel_rfl) (by kernel_rfl) (by kernel_rfl) (fun _ _ _ h => h) (Or.inl ⟨by rfl, ?hyr2x12⟩) (by assumption) ?restr2x12
    case hyr2x12 => intro wq hSw; (go_simp); (try with_reducible rfl)
    try simp only [Act.put, List.setIfInBounds_toArray, List.set_cons_zero, List.set_cons_succ]
    refine wpAnyH_take (i := 13) (oi := ⟨some 84, .pick (.tmp 81) (.tmp 83) (.const (.bool false)), 4, "law.go:128", #[⟨10, .data⟩, ⟨12, .data⟩], none⟩) (v := ?_) rfl (by kernel_rfl) (by kernel_rfl) (by kernel_rfl) (fun _ _ _ h => h) (Or.inl ⟨by rfl, ?hyr2x13⟩) (by assumption) ?restr2x13
    case hyr2x13 => intro wq hSw; (go_simp); (try with_reducible rfl)
    try simp only [Act.put, List.setIfInBounds_toArray, List.set_cons_zero, List.set_cons_succ]
    refine wpAnyH_take (i := 14) (oi := ⟨some 85, .move (.tmp 84), 4, "law.go:128", #[⟨13, .data⟩, ⟨10, .chain⟩], none⟩) (v := ?_) rfl (by kernel_rfl) (by kernel_rfl) (by kernel_rfl) (fun _ _ _ h => h) (Or.inl ⟨by rfl, ?hyr2x14⟩) (by assumption) ?restr2x14
    case hyr2x14 => intro wq hSw; (go_simp); (try with_reducible rfl)
    try simp only [Act.put, List.setIfInBounds_toArray, List.set_cons_zero, List.set_cons_succ]
    refine wpAnyH_take (i := 15) (oi := ⟨some 86, .fieldAddr 48 (.tmp 7) 0, 0, "law.go:128", #[⟨14, .guard⟩], some (14, true)⟩) (v := ?_) rfl (by kernel_rfl) (by kernel_rfl) (by kernel_rfl) (fun _ _ _ h => h) (Or.inl ⟨by rfl, ?hyr2x15⟩) (by assumption) ?restr2x15
    case hyr2x15 => intro wq hSw; (go_simp); (try with_reducible rfl)
    try simp only [Act.put, List.setIfInBounds_toArray, List.set_cons_zero, List.set_cons_succ]
    refine wpAnyH_take (i := 16) (oi := ⟨some 87, .load 3 (.tmp 86), 3, "law.go:128", #[⟨15, .data⟩, ⟨14, .guard⟩], some (14, true)⟩) (v := ?_) rfl (by kernel_rfl) (by kernel_rfl) (by kernel_rfl) (fun _ _ _ h => h) (Or.inl ⟨by rfl, ?hyr2x16⟩) (by assumption) ?restr2x16
    case hyr2x16 => intro wq hSw; (have cq := (HB7.out.nx (rg8 hSw)).cell 0 _ rfl; go_simp); (try with_reducible rfl)
    try simp only [Act.put, List.setIfInBounds_toArray, List.set_cons_zero, List.set_cons_succ]
    refine wpAnyH_take (i := 17) (oi := ⟨some 88, .move (.tmp 10), 34, "law.go:128", #[⟨14, .guard⟩], some (14, true)⟩) (v := ?_) rfl (by kernel_rfl) (by kernel_rfl) (by kernel_rfl) (fun _ _ _ h => h) (Or.inl ⟨by rfl, ?hyr2x17⟩) (by assumption) ?restr2x17
    case hyr2x17 => intro wq hSw; (go_simp); (try with_reducible rfl)
    try simp only [Act.put, List.setIfInBounds_toArray, List.set_cons_zero, List.set_cons_succ]
    refine wpAnyH_take (i := 19) (oi := ⟨some 90, .fieldAddr 48 (.tmp 8) 0, 0, "law.go:128", #[⟨14, .guard⟩], some (14, true)⟩) (v := ?_) rfl (by kernel_rfl) (by kernel_rfl) (by kernel_rfl) (fun _ _ _ h => h) (Or.inl ⟨by rfl, ?hyr2x19⟩) (by assumption) ?restr2x19
    case hyr2x19 => intro wq hSw; (go_simp); (try with_reducible rfl)
    try simp only [Act.put, List.setIfInBounds_toArray, List.set_cons_zero, List.set_cons_succ]
    refine wpAnyH_take (i := 20) (oi := ⟨some 91, .load 3 (.tmp 90), 3, "law.go:128", #[⟨19, .data⟩, ⟨14, .guard⟩], some (14, true)⟩) (v := ?_) rfl (by kernel_rfl) (by kernel_rfl) (by kernel_rfl) (fun _ _ _ h => h) (Or.inl ⟨by rfl, ?hyr2x20⟩) (by assumption) ?restr2x20
    case hyr2x20 => intro wq hSw; (have cq := (HB8.out.nx (rg8 hSw)).cell 0 _ rfl; go_simp); (try with_reducible rfl)
    try simp only [Act.put, List.setIfInBounds_toArray, List.set_cons_zero, List.set_cons_succ]
    refine wpAnyH_take (i := 21) (oi := ⟨some 92, .move (.tmp 12), 34, "law.go:128", #[⟨14, .guard⟩], some (14, true)⟩) (v := ?_) rfl (by kernel_rfl) (by kernel_rfl) (by kernel_rfl) (fun _ _ _ h => h) (Or.inl ⟨by rfl, ?hyr2x21⟩) (by assumption) ?restr2x21
    case hyr2x21 => intro wq hSw; (go_simp); (try with_reducible rfl)
    try simp only [Act.put, List.setIfInBounds_toArray, List.set_cons_zero, List.set_cons_succ]
    refine wpAnyH_ready (rs := [18]) (by kernel_rfl) (by simp) ?_
    refine AllReadyH.cons (o := ⟨some 89, .call { callee := .value (.func 25), args := #[.tmp 87, .tmp 88], argTypes := #[3, 34] }, 3, "law.go:128", #[⟨16, .data⟩, ⟨17, .data⟩, ⟨14, .chain⟩, ⟨14, .guard⟩], some (14, true)⟩) rfl (fun K hK => ?_) AllReadyH.nil
    go_simp
    (with_reducible refine (end_p _ _ _ _ _ _ (H1.out.nx (Ex.refl y3).drew) (by omega)).mono ?_)
    rintro e y4 ⟨rfl, k4⟩
    replace k4 : Ex y3.drew y4 := k4
    rw [F1.out]
    have j4 : Ex y3 y4 := rg8 k4
    refine hK.out _ _ k4 (fun _ => ?_)
    clear hK K
    try simp only [Act.put, List.setIfInBounds_toArray, List.set_cons_zero, List.set_cons_succ]
    refine wpAnyH_switch (S' := Ex y4) (fun _ hSw => Ex.nx k4 hSw) ?_
    clear hHeld
    have hHeld := Ex.refl y4
    refine wpAnyH_ready (rs := [22]) (by kernel_rfl) (by simp) ?_
    refine AllReadyH.cons (o := ⟨some 93, .call { callee := .value (.func 25), args := #[.tmp 91, .tmp 92], argTypes := #[3, 34] }, 3, "law.go:128", #[⟨20, .data⟩, ⟨21, .data⟩, ⟨18, .chain⟩, ⟨14, .guard⟩], some (14, true)⟩) rfl (fun K hK => ?_) AllReadyH.nil
    go_simp
    (with_reducible refine (end_p _ _ _ _ _ _ (H2.out.nx j4) (by omega)).mono ?_)
    rintro e y5 ⟨rfl, k5⟩
    replace k5 : Ex y4 y5 := k5
    rw [F2.out]
    have j5 : Ex y3 y5 := j4.nx k5
    refine hK.out _ _ k5 (fun _ => ?_)
    clear hK K
    try simp only [Act.put, List.setIfInBounds_toArray, List.set_cons_zero, List.set_cons_succ]
    refine wpAnyH_switch (S' := Ex y5) (fun _ hSw => Ex.nx k5 hSw) ?_
    clear hHeld
    have hHeld := Ex.refl y5
    refine wpAnyH_take (i := 23) (oi := ⟨some 94, .binOp .eql 3 (.tmp 89) (.tmp 93) 3, 4, "law.go:128", #[⟨18, .data⟩, ⟨22, .data⟩, ⟨14, .guard⟩], some (14, true)⟩) (v := ?_) rfl (by kernel_rfl) (by kernel_rfl) (by kernel_rfl) (fun _ _ _ h => h) (Or.inl ⟨by rfl, ?hyr2x23⟩) (by assumption) ?restr2x23
    case hyr2x23 => intro wq hSw; (go_simp); (try with_reducible rfl)
    try simp only [Act.put, List.setIfInBounds_toArray, List.set_cons_zero, List.set_cons_succ]
    refine wpAnyH_take (i := 24) (oi := ⟨some 95, .pick (.tmp 85) (.tmp 94) (.const (.bool false)), 4, "law.go:128", #[⟨14, .data⟩, ⟨23, .data⟩], none⟩) (v := ?_) rfl (by kernel_rfl) (by kernel_rfl) (by kernel_rfl) (fun _ _ _ h => h) (Or.inl ⟨by rfl, ?hyr2x24⟩) (by assumption) ?restr2x24
    case hyr2x24 => intro wq hSw; (go_simp); (try with_reducible rfl)
    try simp only [Act.put, List.setIfInBounds_toArray, List.set_cons_zero, List.set_cons_succ]
    refine wpAnyH_take (i := 25) (oi := ⟨some 96, .move (.tmp 95), 4, "law.go:128", #[⟨24, .data⟩, ⟨22, .chain⟩], none⟩) (v := ?_) rfl (by kernel_rfl) (by kernel_rfl) (by kernel_rfl) (fun _ _ _ h => h) (Or.inl ⟨by rfl, ?hyr2x25⟩) (by assumption) ?restr2x25
    case hyr2x25 => intro wq hSw; (go_simp); (try with_reducible rfl)
    try simp only [Act.put, List.setIfInBounds_toArray, List.set_cons_zero, List.set_cons_succ]
    refine wpAnyH_take (i := 26) (oi := ⟨some 97, .fieldAddr 48 (.tmp 7) 0, 0, "law.go:128", #[⟨25, .guard⟩], some (25, true)⟩) (v := ?_) rfl (by kernel_rfl) (by kernel_rfl) (by kernel_rfl) (fun _ _ _ h => h) (Or.inl ⟨by rfl, ?hyr2x26⟩) (by assumption) ?restr2x26
    case hyr2x26 => intro wq hSw; (go_simp); (try with_reducible rfl)
    try simp only [Act.put, List.setIfInBounds_toArray, List.set_cons_zero, List.set_cons_succ]
    refine wpAnyH_take (i := 27) (oi := ⟨some 98, .load 3 (.tmp 97), 3, "law.go:128", #[⟨26, .data⟩, ⟨25, .guard⟩], some (25, true)⟩) (v := ?_) rfl (by kernel_rfl) (by kernel_rfl) (by kernel_rfl) (fun _ _ _ h => h) (Or.inl ⟨by rfl, ?hyr2x27⟩) (by assumption) ?restr2x27
    case hyr2x27 => intro wq hSw; (have cq := (HB7.out.nx (j5.nx hSw)).cell 0 _ rfl; go_simp); (try with_reducible rfl)
    try simp only [Act.put, List.setIfInBounds_toArray, List.set_cons_zero, List.set_cons_succ]
    refine wpAnyH_take (i := 28) (oi := ⟨some 99, .move (.tmp 14), 34, "law.go:128", #[⟨25, .guard⟩], some (25, true)⟩) (v := ?_) rfl (by kernel_rfl) (by kernel_rfl) (by kernel_rfl) (fun _ _ _ h => h) (Or.inl ⟨by rfl, ?hyr2x28⟩) (by assumption) ?restr2x28
    case hyr2x28 => intro wq hSw; (go_simp); (try with_reducible rfl)
    try simp only [Act.put, List.setIfInBounds_toArray, List.set_cons_zero, List.set_cons_succ]
    refine wpAnyH_take (i := 30) (oi := ⟨some 101, .fieldAddr 48 (.tmp 8) 0, 0, "law.go:128", #[⟨25, .guard⟩], some (25, true)⟩) (v := ?_) rfl (by kernel_rfl) (by kernel_rfl) (by kernel_rfl) (fun _ _ _ h => h) (Or.inl ⟨by rfl, ?hyr2x30⟩) (by assumption) ?restr2x30
    case hyr2x30 => intro wq hSw; (go_simp); (try with_reducible rfl)
    try simp only [Act.put, List.setIfInBounds_toArray, List.set_cons_zero, List.set_cons_succ]
    refine wpAnyH_take (i := 31) (oi := ⟨some 102, .load 3 (.tmp 101), 3, "law.go:128", #[⟨30, .data⟩, ⟨25, .guard⟩], some (25, true)⟩) (v := ?_) rfl (by kernel_rfl) (by kernel_rfl) (by kernel_rfl) (fun _ _ _ h => h) (Or.inl ⟨by rfl, ?hyr2x31⟩) (by assumption) ?restr2x31
    case hyr2x31 => intro wq hSw; (have cq := (HB8.out.nx (j5.nx hSw)).cell 0 _ rfl; go_simp); (try with_reducible rfl)
    try simp only [Act.put, List.setIfInBounds_toArray, List.set_cons_zero, List.set_cons_succ]
    refine wpAnyH_ready (rs := [29]) (by kernel_rfl) (by simp) ?_
    refine AllReadyH.cons (o := ⟨some 100, .call { callee := .value (.func 25), args := #[.tmp 98, .tmp 99], argTypes := #[3, 34] }, 3, "law.go:128", #[⟨27, .data⟩, ⟨28, .data⟩, ⟨25, .chain⟩, ⟨25, .guard⟩], some (25, true)⟩) rfl (fun K hK => ?_) AllReadyH.nil
    go_simp
    (with_reducible refine (end_p _ _ _ _ _ _ (H3.out.nx j5) (by omega)).mono ?_)
    rintro e y6 ⟨rfl, k6⟩
    replace k6 : Ex y5 y6 := k6
    rw [F3.out]
    have j6 : Ex y3 y6 := j5.nx k6
    refine hK.out _ _ k6 (fun _ => ?_)
    clear hK K
    try simp only [Act.put, List.setIfInBounds_toArray, List.set_cons_zero, List.set_cons_succ]
    refine wpAnyH_switch (S' := Ex y6) (fun _ hSw => Ex.nx k6 hSw) ?_
    clear hHeld
    have hHeld := Ex.refl y6
    refine wpAnyH_take (i := 32) (oi := ⟨some 103, .binOp .eql 3 (.tmp 100) (.tmp 102) 3, 4, "law.go:128", #[⟨29, .data⟩, ⟨31, .data⟩, ⟨25, .guard⟩], some (25, true)⟩) (v := ?_) rfl (by kernel_rfl) (by kernel_rfl) (by kernel_rfl) (fun _ _ _ h => h) (Or.inl ⟨by rfl, ?hyr2x32⟩) (by assumption) ?restr2x32
    case hyr2x32 => intro wq hSw; (go_simp); (try with_reducible rfl)
    try simp only [Act.put, List.setIfInBounds_toArray, List.set_cons_zero, List.set_cons_succ]
    refine wpAnyH_take (i := 33) (oi := ⟨some 104, .pick (.tmp 96) (.tmp 103) (.const (.bool false)), 4, "law.go:128", #[⟨25, .data⟩, ⟨32, .data⟩], none⟩) (v := ?_) rfl (by kernel_rfl) (by kernel_rfl) (by kernel_rfl) (fun _ _ _ h => h) (Or.inl ⟨by rfl, ?hyr2x33⟩) (by assumption) ?restr2x33
    case hyr2x33 => intro wq hSw; (go_simp); (try with_reducible rfl)
    try simp only [Act.put, List.setIfInBounds_toArray, List.set_cons_zero, List.set_cons_succ]
    refine wpAnyH_take (i := 34) (oi := ⟨some 105, .move (.tmp 104), 4, "law.go:128", #[⟨33, .data⟩, ⟨29, .chain⟩], none⟩) (v := ?_) rfl (by kernel_rfl) (by kernel_rfl) (by kernel_rfl) (fun _ _ _ h => h) (Or.inl ⟨by rfl, ?hyr2x34⟩) (by assumption) ?restr2x34
    case hyr2x34 => intro wq hSw; (go_simp); (try with_reducible rfl)
    try simp only [Act.put, List.setIfInBounds_toArray, List.set_cons_zero, List.set_cons_succ]
    refine wpAnyH_ready (rs := [35]) (by kernel_rfl) (by simp) ?_
    refine AllReadyH.cons (o := ⟨some 106, .call { callee := .value (.func 27), args := #[], argTypes := #[] }, 4, "law.go:128", #[⟨34, .chain⟩, ⟨34, .guard⟩], some (34, true)⟩) rfl (fun K hK => ?_) AllReadyH.nil
    go_simp
    (with_reducible refine (sane8_x _ (TG3.out.nx j6)).mono ?_)
    rintro e y7 ⟨rfl, k7⟩
    refine hK.out _ _ k7 (fun _ => ?_)
    clear hK K
    try simp only [Act.put, List.setIfInBounds_toArray, List.set_cons_zero, List.set_cons_succ]
    refine wpAnyH_switch (S' := Ex y7) (fun _ hSw => Ex.nx k7 hSw) ?_
    clear hHeld
    have hHeld := Ex.refl y7
    refine wpAnyH_take (i := 36) (oi := ⟨some 107, .pick (.tmp 105) (.tmp 106) (.const (.bool false)), 4, "law.go:128", #[⟨34, .data⟩, ⟨35, .data⟩], none⟩) (v := ?_) rfl (by kernel_rfl) (by kernel_rfl) (by kernel_rfl) (fun _ _ _ h => h) (Or.inl ⟨by rfl, ?hyr2x36⟩) (by assumption) ?restr2x36
    case hyr2x36 => intro wq hSw; (go_simp); (try with_reducible rfl)
    try simp only [Act.put, List.setIfInBounds_toArray, List.set_cons_zero, List.set_cons_succ]
    refine wpAnyH_take (i := 37) (oi := ⟨some 2, .assign (.tmp 107), 4, "law.go:128", #[⟨36, .data⟩, ⟨35, .chain⟩, ⟨0, .phase⟩, ⟨1, .phase⟩, ⟨2, .phase⟩, ⟨3, .phase⟩, ⟨4, .phase⟩, ⟨5, .phase⟩, ⟨6, .phase⟩, ⟨7, .phase⟩, ⟨8, .phase⟩, ⟨9, .phase⟩, ⟨10, .phase⟩, ⟨11, .phase⟩, ⟨12, .phase⟩, ⟨13, .phase⟩, ⟨14, .phase⟩, ⟨15, .phase⟩, ⟨16, .phase⟩, ⟨17, .phase⟩, ⟨18, .phase⟩, ⟨19, .phase⟩, ⟨20, .phase⟩, ⟨21, .phase⟩, ⟨22, .phase⟩, ⟨23, .phase⟩, ⟨24, .phase⟩, ⟨25, .phase⟩, ⟨26, .phase⟩, ⟨27, .phase⟩, ⟨28, .phase⟩, ⟨29, .phase⟩, ⟨30, .phase⟩, ⟨31, .phase⟩, ⟨32, .phase⟩, ⟨33, .phase⟩, ⟨34, .phase⟩, ⟨35, .phase⟩, ⟨36, .phase⟩], none⟩) (v := ?_) rfl (by kernel_rfl) (by kernel_rfl) (by kernel_rfl) (fun _ _ _ h => h) (Or.inl ⟨by rfl, ?hyr2x37⟩) (by assumption) ?restr2x37
    case hyr2x37 => intro wq hSw; (go_simp); (try with_reducible rfl)
    try simp only [Act.put, List.setIfInBounds_toArray, List.set_cons_zero, List.set_cons_succ]
    refine wpAnyH_done (by kernel_rfl) ?_ _
    have QF := Lib.hid (Q3.out.nx (j6.nx k7))
    clear k4 k5 k6 k7 j4 j5 j6
    go_wp2_with fail
    go_ret
    exact ⟨rfl, QF.out⟩
end Go.Proofs.YtkjlhcfocefhpaaDoor
