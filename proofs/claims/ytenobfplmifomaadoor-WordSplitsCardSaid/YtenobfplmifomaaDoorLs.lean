/- Lists of lists of nodes. -/
import Derived.Test.YtenobfplmifomaaDoorNds
import Derived.Test.YtenobfplmifomaaDoorApH
import Derived.Deep.RegionHeld3
namespace Go.Proofs.YtenobfplmifomaaDoor
open Go.RowKit

/-- one may go on under a condition that gives the first one -/
theorem wpAnyH_switch {P : Program} {md : Region.Mode} {ops : Array Oper} {Q : Exit → Act → World → Prop} {S S' : World → Prop} (hS : ∀ w, S' w → S w) :
    ∀ {fuel : Nat} {listed : Array Bool} {a : Act} {w : World}, wpAnyH P md ops Q S' fuel listed a w → wpAnyH P md ops Q S fuel listed a w
  | 0, _, _, _, h => h
  | fuel + 1, _, _, _, h => ⟨h.1, fun i hi => wpOp_mono (fun a' w' h' => ⟨hS w' h'.1, wpAnyH_switch hS h'.2⟩) (h.2 i hi)⟩

abbrev Hdr := Option Addr × Nat × Nat
def Hdr.val (q : Hdr) : Value := .slice q.1 q.2.1 q.2.2
def encH (q : Hdr) : List Value := [q.val]
theorem Tryd.infoH : (Tryd.prog.info? 39).map (fun i => (i.zero, i.size, i.bytes)) = some (some (.slice none 0 0), 1, 24) := by kernel_rfl

/-- a slice of slices of nodes that reads as a list of lists -/
def LL (w : World) (a : Option Addr) (n : Nat) (C : List (List Nd)) : Prop :=
  ∃ qs : List Hdr, Sl 1 encH w a n qs ∧ C.length = n ∧ ∀ (j : Nat) (q : Hdr) (c : List Nd), qs[j]? = some q → C[j]? = some c → Sl 3 encN w q.1 q.2.1 c
theorem LL.nx {w w' : World} {a : Option Addr} {n : Nat} {C : List (List Nd)} (h : LL w a n C) (k : Ex w w') : LL w' a n C := by
  obtain ⟨qs, h1, h2, h3⟩ := h
  exact ⟨qs, h1.nx k, h2, fun j q c hq hc => (h3 j q c hq hc).nx k⟩
theorem LL.len {w : World} {a : Option Addr} {n : Nat} {C : List (List Nd)} (h : LL w a n C) : C.length = n := by
  obtain ⟨qs, h1, h2, h3⟩ := h
  exact h2
theorem LL.at {w : World} {a : Option Addr} {n : Nat} {C : List (List Nd)} (h : LL w a n C) {j : Nat} (hj : j < n) :
    ∃ x o a' n' c' c, a = some ⟨x, o, none⟩ ∧ x < w.heap.size ∧ C[j]? = some c ∧ w.cell? ⟨x, o + j, none⟩ = some (.slice a' n' c') ∧ Sl 3 encN w a' n' c := by
  obtain ⟨qs, h1, h2, h3⟩ := h
  obtain ⟨x, o, q, e, hx, hq, hc⟩ := h1.at hj
  obtain ⟨c, hcc⟩ : ∃ c, C[j]? = some c := ⟨C[j]'(by omega), by simp⟩
  refine ⟨x, o, q.1, q.2.1, q.2.2, c, e, hx, hcc, ?_, h3 j q c hq hcc⟩
  have := hc 0 _ rfl
  rw [Nat.mul_one, Nat.add_zero] at this
  exact this
theorem LL.nil (w : World) (a : Option Addr) : LL w a 0 [] := ⟨[], Sl.nil _ _ _ _, rfl, by intro j q c h; simp at h⟩

set_option maxHeartbeats 1000000 in
theorem lists_x (a1 a2 : Option Addr) (n c1 c2 : Nat) (C : List (List Nd)) (w : World) (h1 : LL w a1 n C) (h2 : LL w a2 n C) (hn : n ≤ 1000000) (hC : ∀ c ∈ C, c.length ≤ 1000000) :
    Calls Tryd.prog 27 #[.slice a1 n c1, .slice a2 n c2] w fun e w' => e = .returned (.bool true) ∧ Ex w w' := by
  have HC := Lib.hid hC
  clear hC
  go_enter Tryd.func27, Tryd.ntmps27
  go_wp2_with fail
  go_loopw [5] (fun i wr => NRel n w i wr) (fun i _ => n - (intOf i).toNat)
  case atStart => exact ⟨0, by omega, rfl, Ex.refl _⟩
  case round =>
    obtain ⟨k, hk, rfl, kw⟩ := hrel
    obtain ⟨wo, rfl⟩ : ∃ wo : World, wo = wr := ⟨_, rfl⟩
    by_cases hlt : k < n
    · obtain ⟨x1, o1, b1, m1, d1, l1, rfl, hx1, hy, hc1, r1⟩ := (h1.nx kw).at hlt
      obtain ⟨x2, o2, b2, m2, d2, l2, rfl, hx2, hy', hc2, r2⟩ := (h2.nx kw).at hlt
      obtain rfl : l1 = l2 := Option.some.inj (hy.symm.trans hy')
      obtain rfl : m1 = m2 := r1.len.symm.trans r2.len
      have hl1 : m1 ≤ 1000000 := by rw [← r1.len]; exact HC.out _ (List.mem_of_getElem? hy)
      clear hy hy' h1 h2
      go_wp2_with fail
      refine wp_region_held_drew (S := Ex wo.drew) (by kernel_rfl) (Ex.refl _) (fun hHeld => ?_)
      refine wpAnyH_take (i := 0) (oi := { dst := some 17, op := Op.move (Operand.tmp 0), type := 44, pos := "law.go:48", after := #[], guard := none }) (v := ?_) rfl (by kernel_rfl) (by kernel_rfl) (by kernel_rfl) (fun _ _ _ h => h) (Or.inl ⟨by rfl, ?hyr1x0⟩) (by assumption) ?restr1x0
      case hyr1x0 => intro wq hSw; (go_simp); (try with_reducible rfl)
      try simp only [Act.put, List.setIfInBounds_toArray, List.set_cons_zero, List.set_cons_succ]
      refine wpAnyH_take (i := 1) (oi := { dst := some 18, op := Op.move (Operand.tmp 5), type := 3, pos := "law.go:48", after := #[], guard := none }) (v := ?_) rfl (by kernel_rfl) (by kernel_rfl) (by kernel_rfl) (fun _ _ _ h => h) (Or.inl ⟨by rfl, ?hyr1x1⟩) (by assumption) ?restr1x1
      case hyr1x1 => intro wq hSw; (go_simp); (try with_reducible rfl)
      try simp only [Act.put, List.setIfInBounds_toArray, List.set_cons_zero, List.set_cons_succ]
      refine wpAnyH_take (i := 2) (oi := { dst := some 19, op := Op.indexAddr 44 (Operand.tmp 17) (Operand.tmp 18), type := 0, pos := "law.go:48", after := #[{ on := 0, ground := Ground.data }, { on := 1, ground := Ground.data }], guard := none }) (v := ?_) rfl (by kernel_rfl) (by kernel_rfl) (by kernel_rfl) (fun _ _ _ h => h) (Or.inl ⟨by rfl, ?hyr1x2⟩) (by assumption) ?restr1x2
      case hyr1x2 => intro wq hSw; (go_simp); (try with_reducible rfl)
      try simp only [Act.put, List.setIfInBounds_toArray, List.set_cons_zero, List.set_cons_succ]
      refine wpAnyH_take (i := 3) (oi := { dst := some 20, op := Op.load 39 (Operand.tmp 19), type := 39, pos := "law.go:48", after := #[{ on := 2, ground := Ground.data }], guard := none }) (v := ?_) rfl (by kernel_rfl) (by kernel_rfl) (by kernel_rfl) (fun _ _ _ h => h) (Or.inl ⟨by rfl, ?hyr1x3⟩) (by assumption) ?restr1x3
      case hyr1x3 => intro wq hSw; (have cq := Chg.cellv hSw hc1 hx1; go_simp); (try with_reducible rfl)
      try simp only [Act.put, List.setIfInBounds_toArray, List.set_cons_zero, List.set_cons_succ]
      refine wpAnyH_take (i := 4) (oi := { dst := some 21, op := Op.move (Operand.tmp 1), type := 44, pos := "law.go:48", after := #[], guard := none }) (v := ?_) rfl (by kernel_rfl) (by kernel_rfl) (by kernel_rfl) (fun _ _ _ h => h) (Or.inl ⟨by rfl, ?hyr1x4⟩) (by assumption) ?restr1x4
      case hyr1x4 => intro wq hSw; (go_simp); (try with_reducible rfl)
      try simp only [Act.put, List.setIfInBounds_toArray, List.set_cons_zero, List.set_cons_succ]
      refine wpAnyH_take (i := 5) (oi := { dst := some 22, op := Op.move (Operand.tmp 5), type := 3, pos := "law.go:48", after := #[], guard := none }) (v := ?_) rfl (by kernel_rfl) (by kernel_rfl) (by kernel_rfl) (fun _ _ _ h => h) (Or.inl ⟨by rfl, ?hyr1x5⟩) (by assumption) ?restr1x5
      case hyr1x5 => intro wq hSw; (go_simp); (try with_reducible rfl)
      try simp only [Act.put, List.setIfInBounds_toArray, List.set_cons_zero, List.set_cons_succ]
      refine wpAnyH_take (i := 6) (oi := { dst := some 23, op := Op.indexAddr 44 (Operand.tmp 21) (Operand.tmp 22), type := 0, pos := "law.go:48", after := #[{ on := 4, ground := Ground.data }, { on := 5, ground := Ground.data }], guard := none }) (v := ?_) rfl (by kernel_rfl) (by kernel_rfl) (by kernel_rfl) (fun _ _ _ h => h) (Or.inl ⟨by rfl, ?hyr1x6⟩) (by assumption) ?restr1x6
      case hyr1x6 => intro wq hSw; (go_simp); (try with_reducible rfl)
      try simp only [Act.put, List.setIfInBounds_toArray, List.set_cons_zero, List.set_cons_succ]
      refine wpAnyH_take (i := 7) (oi := { dst := some 24, op := Op.load 39 (Operand.tmp 23), type := 39, pos := "law.go:48", after := #[{ on := 6, ground := Ground.data }], guard := none }) (v := ?_) rfl (by kernel_rfl) (by kernel_rfl) (by kernel_rfl) (fun _ _ _ h => h) (Or.inl ⟨by rfl, ?hyr1x7⟩) (by assumption) ?restr1x7
      case hyr1x7 => intro wq hSw; (have cq := Chg.cellv hSw hc2 hx2; go_simp); (try with_reducible rfl)
      try simp only [Act.put, List.setIfInBounds_toArray, List.set_cons_zero, List.set_cons_succ]
      refine wpAnyH_ready (rs := [8]) (by kernel_rfl) (by simp) ?_
      refine AllReadyH.cons (o := { dst := some 25, op := Op.call { callee := Callee.value (Operand.func 24), args := #[Operand.tmp 20, Operand.tmp 24], argTypes := #[39, 39] }, type := 4, pos := "law.go:48", after := #[{ on := 3, ground := Ground.data }, { on := 7, ground := Ground.data }], guard := none }) rfl (fun K hK => ?_) AllReadyH.nil
      go_simp
      (with_reducible refine (samenodes_x _ _ _ _ _ _ _ (r1.nx (Ex.refl wo).drew) (r2.nx (Ex.refl wo).drew) hl1).mono ?_)
      rintro e v1 ⟨rfl, kk⟩
      refine hK.out _ _ kk (fun _ => ?_)
      clear hK K
      try simp only [Act.put, List.setIfInBounds_toArray, List.set_cons_zero, List.set_cons_succ]
      refine wpAnyH_switch (S' := Ex v1) (fun _ hSw => Ex.nx kk hSw) ?_
      clear hHeld
      have hHeld := Ex.refl v1
      refine wpAnyH_take (i := 9) (oi := { dst := some 26, op := Op.unOp UnOp.not 4 (Operand.tmp 25), type := 4, pos := "law.go:48", after := #[{ on := 8, ground := Ground.data }], guard := none }) (v := ?_) rfl (by kernel_rfl) (by kernel_rfl) (by kernel_rfl) (fun _ _ _ h => h) (Or.inl ⟨by rfl, ?hyr1x9⟩) (by assumption) ?restr1x9
      case hyr1x9 => intro wq hSw; (go_simp); (try with_reducible rfl)
      try simp only [Act.put, List.setIfInBounds_toArray, List.set_cons_zero, List.set_cons_succ]
      refine wpAnyH_done (by kernel_rfl) ?_ _
      replace kw := kw.drew.nx kk
      clear hc1 hc2 r1 r2 kk
      go_wp2_with fail
      exact ⟨⟨k + 1, by omega, by go_num, kw⟩, by simp [intOf]; omega⟩
    · obtain rfl : k = n := by omega
      clear h1 h2 hk hlt
      go_wp2_with fail
      go_ret
      exact ⟨rfl, kw⟩

/-- the closure of Classes: a list's first word agrees with a node's word at a level -/
theorem same_pE (a b : Nat) (h : Int) (w : World) (ha : a < 4294967296) (hb : b < 4294967296) (hT : TabG w) :
    Calls Tryd.prog 17 #[.int .u32 a, .int .u32 b, .int .i64 h] w fun e w' => e = .returned (.bool (sameN a b h)) ∧ Ex w w' :=
  (same_p a b h w ha hb hT).mono fun _ _ h => ⟨h.1, by rw [← h.2]; exact Ex.refl _⟩
theorem TabG.nx {w w' : World} (h : TabG w) (k : Ex w w') : TabG w' := h.chg k h.lt
def headW (c : List Nd) : Nat := match c with | [] => 0 | y :: _ => y.word

set_option maxHeartbeats 1000000 in
theorem cls1_p (a : Option Addr) (n cp gx gh : Nat) (c : List Nd) (id : Int) (key : ByteArray) (v : Nat) (h : Int) (w : World) (hr : Sl 3 encN w a n c) (hc : 0 < n) (hn : n ≤ 1000000) (hcw : ∀ y ∈ c, y.word < 4294967296) (hv : v < 4294967296)
    (hx : Blk w gx [.int .i64 id, .string key, .int .u32 v] 48) (hh : Blk w gh [.int .i64 h] 3) (hT : TabG w) :
    Calls Tryd.prog 35 #[.slice a n cp, .pointer (some ⟨gx, 0, none⟩), .pointer (some ⟨gh, 0, none⟩)] w fun e w' => e = .returned (.bool (sameN (headW c) v h)) ∧ Ex w w' := by
  obtain ⟨x1, o1, y, rfl, hx1, hy, hc1⟩ := hr.at hc
  have e2 : w.cell? ⟨x1, o1 + 2, none⟩ = some (.int .u32 y.word) := by simpa using hc1 2 _ rfl
  have f2 := hx.cell 2 _ rfl
  have f0 := hh.cell 0 _ rfl
  have lx := hx.lt
  have lh := hh.lt
  have hyw := hcw y (List.mem_of_getElem? hy)
  have hW : headW c = y.word := by
    cases c with
    | nil => simp at hy
    | cons z r => simp at hy; subst hy; rfl
  have HT := Lib.hid hT
  rw [hW]
  clear hW hc1 hy hr hcw hx hh hT
  go_enter Tryd.func35, Tryd.ntmps35
  go_wp2_with fail
  refine wp_region_held_drew (S := Ex w.drew) (by kernel_rfl) (Ex.refl _) (fun hHeld => ?_)
  refine wpAnyH_take (i := 0) (oi := { dst := some 5, op := Op.move (Operand.tmp 0), type := 39, pos := "word.go:57", after := #[], guard := none }) (v := ?_) rfl (by kernel_rfl) (by kernel_rfl) (by kernel_rfl) (fun _ _ _ h => h) (Or.inl ⟨by rfl, ?hyr2x0⟩) (by assumption) ?restr2x0
  case hyr2x0 => intro wq hSw; (go_simp); (try with_reducible rfl)
  try simp only [Act.put, List.setIfInBounds_toArray, List.set_cons_zero, List.set_cons_succ]
  refine wpAnyH_take (i := 1) (oi := { dst := some 6, op := Op.indexAddr 39 (Operand.tmp 5) (Operand.const (Value.int IntKind.i64 0)), type := 0, pos := "word.go:57", after := #[{ on := 0, ground := Ground.data }], guard := none }) (v := ?_) rfl (by kernel_rfl) (by kernel_rfl) (by kernel_rfl) (fun _ _ _ h => h) (Or.inl ⟨by rfl, ?hyr2x1⟩) (by assumption) ?restr2x1
  case hyr2x1 => intro wq hSw; (go_simp); (try with_reducible rfl)
  try simp only [Act.put, List.setIfInBounds_toArray, List.set_cons_zero, List.set_cons_succ]
  refine wpAnyH_take (i := 2) (oi := { dst := some 7, op := Op.fieldAddr 48 (Operand.tmp 6) 2, type := 0, pos := "word.go:57", after := #[{ on := 1, ground := Ground.data }], guard := none }) (v := ?_) rfl (by kernel_rfl) (by kernel_rfl) (by kernel_rfl) (fun _ _ _ h => h) (Or.inl ⟨by rfl, ?hyr2x2⟩) (by assumption) ?restr2x2
  case hyr2x2 => intro wq hSw; (go_simp); (try with_reducible rfl)
  try simp only [Act.put, List.setIfInBounds_toArray, List.set_cons_zero, List.set_cons_succ]
  refine wpAnyH_take (i := 3) (oi := { dst := some 8, op := Op.load 23 (Operand.tmp 7), type := 23, pos := "word.go:57", after := #[{ on := 2, ground := Ground.data }], guard := none }) (v := ?_) rfl (by kernel_rfl) (by kernel_rfl) (by kernel_rfl) (fun _ _ _ h => h) (Or.inl ⟨by rfl, ?hyr2x3⟩) (by assumption) ?restr2x3
  case hyr2x3 => intro wq hSw; (have cq := Chg.cellv hSw e2 hx1; go_simp); (try with_reducible rfl)
  try simp only [Act.put, List.setIfInBounds_toArray, List.set_cons_zero, List.set_cons_succ]
  refine wpAnyH_take (i := 4) (oi := { dst := some 9, op := Op.fieldAddr 48 (Operand.tmp 1) 2, type := 0, pos := "word.go:57", after := #[], guard := none }) (v := ?_) rfl (by kernel_rfl) (by kernel_rfl) (by kernel_rfl) (fun _ _ _ h => h) (Or.inl ⟨by rfl, ?hyr2x4⟩) (by assumption) ?restr2x4
  case hyr2x4 => intro wq hSw; (go_simp); (try with_reducible rfl)
  try simp only [Act.put, List.setIfInBounds_toArray, List.set_cons_zero, List.set_cons_succ]
  refine wpAnyH_take (i := 5) (oi := { dst := some 10, op := Op.load 23 (Operand.tmp 9), type := 23, pos := "word.go:57", after := #[{ on := 4, ground := Ground.data }], guard := none }) (v := ?_) rfl (by kernel_rfl) (by kernel_rfl) (by kernel_rfl) (fun _ _ _ h => h) (Or.inl ⟨by rfl, ?hyr2x5⟩) (by assumption) ?restr2x5
  case hyr2x5 => intro wq hSw; (have cq := Chg.cellv hSw f2 lx; go_simp); (try with_reducible rfl)
  try simp only [Act.put, List.setIfInBounds_toArray, List.set_cons_zero, List.set_cons_succ]
  refine wpAnyH_take (i := 6) (oi := { dst := some 11, op := Op.load 3 (Operand.tmp 2), type := 3, pos := "word.go:57", after := #[], guard := none }) (v := ?_) rfl (by kernel_rfl) (by kernel_rfl) (by kernel_rfl) (fun _ _ _ h => h) (Or.inl ⟨by rfl, ?hyr2x6⟩) (by assumption) ?restr2x6
  case hyr2x6 => intro wq hSw; (have cq := Chg.cellv hSw f0 lh; go_simp); (try with_reducible rfl)
  try simp only [Act.put, List.setIfInBounds_toArray, List.set_cons_zero, List.set_cons_succ]
  refine wpAnyH_ready (rs := [7]) (by kernel_rfl) (by simp) ?_
  refine AllReadyH.cons (o := { dst := some 12, op := Op.call { callee := Callee.value (Operand.func 17), args := #[Operand.tmp 8, Operand.tmp 10, Operand.tmp 11], argTypes := #[23, 23, 3] }, type := 4, pos := "word.go:57", after := #[{ on := 3, ground := Ground.data }, { on := 5, ground := Ground.data }, { on := 6, ground := Ground.data }], guard := none }) rfl (fun K hK => ?_) AllReadyH.nil
  go_simp
  (with_reducible refine (same_pE _ _ _ _ hyw hv (HT.out.nx (Ex.refl w).drew)).mono ?_)
  rintro e v1 ⟨rfl, kk⟩
  refine hK.out _ _ kk (fun _ => ?_)
  clear hK K
  try simp only [Act.put, List.setIfInBounds_toArray, List.set_cons_zero, List.set_cons_succ]
  refine wpAnyH_switch (S' := Ex v1) (fun _ hSw => Ex.nx kk hSw) ?_
  clear hHeld
  have hHeld := Ex.refl v1
  refine wpAnyH_take (i := 8) (oi := { dst := some 4, op := Op.assign (Operand.tmp 12), type := 4, pos := "word.go:57", after := #[{ on := 7, ground := Ground.data }, { on := 7, ground := Ground.chain }, { on := 0, ground := Ground.phase }, { on := 1, ground := Ground.phase }, { on := 2, ground := Ground.phase }, { on := 3, ground := Ground.phase }, { on := 4, ground := Ground.phase }, { on := 5, ground := Ground.phase }, { on := 6, ground := Ground.phase }, { on := 7, ground := Ground.phase }], guard := none }) (v := ?_) rfl (by kernel_rfl) (by kernel_rfl) (by kernel_rfl) (fun _ _ _ h => h) (Or.inl ⟨by rfl, ?hyr2x8⟩) (by assumption) ?restr2x8
  case hyr2x8 => intro wq hSw; (go_simp); (try with_reducible rfl)
  try simp only [Act.put, List.setIfInBounds_toArray, List.set_cons_zero, List.set_cons_succ]
  refine wpAnyH_done (by kernel_rfl) ?_ _
  go_wp2_with fail
  go_ret
  exact ⟨rfl, (Ex.refl w).drew.nx kk⟩
end Go.Proofs.YtenobfplmifomaaDoor
