/- Texts for the statement LinearGarbageProof, part 6 of 9: LinD, RedI, RedJ, RedL, MapO, LinE, LinF, LinQ, Lw16. -/
import Derived.Deep.LoopGhost
import Derived.Test.YtbnbjiddffihoaaDoorLinearGarbageProofPk3
import Derived.Test.YtbnbjiddffihoaaDoorLinearGarbageProofPk4
import Derived.Test.YtbnbjiddffihoaaDoorLinearGarbageProofPk5

/- Intros of the package linear. -/
namespace Go.Proofs.YtbnbjiddffihoaaDoor
open Go.RowKit

theorem Tryd.infoIn : (Tryd.prog.info? 98).map (fun i => (i.zero, i.size, i.bytes)) = some (some (.agg #[.int .i64 0, .int .i64 0]), 2, 16) := by kernel_rfl
/-- a list of messages in memory of its own -/
def InPost (M : List (Int × Int)) (w : World) (e : Ending) (w' : World) : Prop := ∃ v, e = .returned v ∧ OwnW 2 encS 98 w.heap.size w' v M ∧ Ex w w'
def IoRel (L : List Int) (id : Int) (w : World) (o i : Value) (wr : World) : Prop :=
  ∃ k : Nat, 1 ≤ k ∧ k ≤ L.length + 1 ∧ i = .int .i64 k ∧ OwnW 2 encS 98 w.heap.size wr o (((L.zip L.tail).take (k - 1)).flatMap (pr2 id)) ∧ Ex w wr
def prT (a b : Int) : List (Int × Int) := [(a, b), (b, a)]
def notTo (id : Int) (q : Int × Int) : Bool := !(q.1 == id)
theorem prT_all (id a b : Int) : (prT a b).filter (notTo id) = pr2 id (a, b) := by
  unfold prT pr2 notTo
  by_cases h1 : a = id <;> by_cases h2 : b = id <;> simp [List.filter_cons, h1, h2]
theorem prT_snoc {id a b : Int} {q : Nat} {y : Int × Int} (hy : (prT a b)[q]? = some y) : ((prT a b).take (q + 1)).filter (notTo id) = ((prT a b).take q).filter (notTo id) ++ (if notTo id y = true then [y] else []) := by
  rw [List.take_add_one, hy, List.filter_append]
  congr 1
  simp only [Option.toList_some, List.filter_cons, List.filter_nil]
def IiRel (O : List (Int × Int)) (id a b : Int) (base lo : Nat) (w : World) (o i : Value) (wr : World) : Prop :=
  ∃ q : Nat, q ≤ 2 ∧ i = .int .i64 q ∧ OwnW 2 encS 98 base wr o (O ++ ((prT a b).take q).filter (notTo id)) ∧ Acc base lo w.heap.size w wr o
theorem litIn {wb wq : World} (h : Ex wb wq) (a b : Int) : ∃ g wn, g = wq.heap.size ∧ wn = wq.alloc (.cells #[.int .i64 a, .int .i64 b, .int .i64 b, .int .i64 a] 98) ∧ Slf 2 encS wb wn (some ⟨g, 0, none⟩) 2 (prT a b) ∧ Ex wb wn :=
  ⟨_, _, rfl, rfl, Slf.lit (prT a b) rfl h.size rfl (fun _ => rfl) rfl, h.alloc _⟩
set_option maxRecDepth 100000 in
set_option maxHeartbeats 8000000 in
theorem intros_p (a : Option Addr) (n c : Nat) (N : List Nd) (p : Pr) (a1 : Option Addr) (n1 c1 : Nat) (a2 : Option Addr) (n2 c2 : Nat) (w : World) (h : Sl 3 encN w a n N) (hn : n ≤ 1000) (hc : n ≤ c) (hm : c ≤ maxLen) (h1 : Sl 1 encI w a1 n1 p.known) (h2 : Sl 4 encNr w a2 n2 p.near) (hn1 : n1 ≤ 4000000000000000000) (hn2 : n2 ≤ 4000000000000000000) :
    Calls Tryd.prog 70 #[.slice a n c, .agg #[.int .i64 p.id, .slice a1 n1 c1, .int .i64 p.left, .int .i64 p.right, .slice a2 n2 c2]] w (InPost (introsN N p) w) := by
  have EX := Ex.refl w
  have HL := Lib.hid h.len
  have B3 := Blk.new w [.int .i64 p.id, .slice a1 n1 c1, .int .i64 p.left, .int .i64 p.right, .slice a2 n2 c2] 41
  have kk := Ex.new w (.cells #[.int .i64 p.id, .slice a1 n1 c1, .int .i64 p.left, .int .i64 p.right, .slice a2 n2 c2] 41)
  obtain ⟨w1, hw1⟩ : ∃ w1, w1 = w.alloc (.cells #[.int .i64 p.id, .slice a1 n1 c1, .int .i64 p.left, .int .i64 p.right, .slice a2 n2 c2] 41) := ⟨_, rfl⟩
  obtain ⟨g3, hg3⟩ : ∃ g3, g3 = w.heap.size := ⟨_, rfl⟩
  replace B3 : Blk w1 g3 [.int .i64 p.id, .slice a1 n1 c1, .int .i64 p.left, .int .i64 p.right, .slice a2 n2 c2] 41 := by rw [hw1, hg3]; exact B3
  rw [← hw1] at kk
  have Hw1 := Lib.hid hw1
  have Hg3 := Lib.hid hg3
  replace h := h.nx kk
  replace h1 := h1.nx kk
  replace h2 := h2.nx kk
  replace EX := EX.nx kk
  clear kk hw1 hg3
  go_enter Tryd.func70, Tryd.ntmps70
  go_upto_region 1 with fail
  rw [← Hg3.out, ← Hw1.out]
  clear Hg3 Hw1
  have q0 := B3.cell 0 _ rfl
  have q1 := B3.cell 1 _ rfl
  have q2 := B3.cell 2 _ rfl
  have q3 := B3.cell 3 _ rfl
  have q4 := B3.cell 4 _ rfl
  go_wp2_with fail
  (with_reducible refine (row_p _ _ _ N p _ _ _ _ _ _ _ h hn hc hm h1 h2 hn1 hn2).mono ?_)
  rintro e w2 ⟨v, rfl, own, kk⟩
  replace EX := EX.nx kk
  replace B3 := B3.nx kk
  clear kk
  clear q0 q1 q2 q3 q4 h h1 h2
  have hrl : (arN N p).length ≤ 1000 := by
    have h1 := HL.out
    have h2 := ar_len (N := N) p
    omega
  obtain ⟨aR, cR, rfl, R1, _, _, _⟩ := own.slf (fun _ => rfl)
  have S := Lib.hid R1.sl
  have IN : Hid (∀ M, prsN p.id (arN N p) = M → introsN N p = M) := Lib.hid (fun r hr => hr)
  generalize arN N p = R at own R1 S IN hrl ⊢
  have B3 := Lib.hid B3
  have EX2 := Lib.hid EX
  have z2 := EX.size
  clear own R1 EX
  go_wp2_with fail
  go_loopw [5, 7] (fun o i wr => IoRel R p.id w2 o i wr) (fun _ i _ => R.length + 1 - (intOf i).toNat)
  case atStart => exact ⟨1, by omega, by omega, rfl, OwnW.nil _ _ _ _ _, Ex.refl _⟩
  case round =>
    obtain ⟨k, hk1, hk, rfl, own, ki⟩ := hrel
    obtain ⟨wi, rfl⟩ : ∃ wi : World, wi = wr := ⟨_, rfl⟩
    have hol : (((R.zip R.tail).take (k - 1)).flatMap (pr2 p.id)).length ≤ 2000 := by
      have h1 := prs_take_len p.id ((R.zip R.tail).take (k - 1))
      rw [List.length_take, List.length_zip, List.length_tail] at h1
      omega
    by_cases hkm : k < R.length
    · obtain ⟨xl, xo, yl, rfl, hxl, hyl, hcl⟩ := (S.out.nx ki).at (show k - 1 < R.length by omega)
      obtain ⟨xl', xo', yr, hee, hxr, hyr, hcr⟩ := (S.out.nx ki).at hkm
      cases hee
      have CL : Hid (∀ wq, Ex wi wq → wq.cell? ⟨xl, xo + (k - 1), none⟩ = some (.int .i64 yl)) := Lib.hid (fun wq kq => Chg.cellv kq (by simpa using hcl 0 _ rfl) hxl)
      have CR : Hid (∀ wq, Ex wi wq → wq.cell? ⟨xl, xo + k, none⟩ = some (.int .i64 yr)) := Lib.hid (fun wq kq => Chg.cellv kq (by simpa using hcr 0 _ rfl) hxl)
      have SN := Lib.hid (prs_snoc (id := p.id) hyl (by rw [show k - 1 + 1 = k by omega]; exact hyr))
      generalize ((R.zip R.tail).take (k - 1)).flatMap (pr2 p.id) = O at own SN hol
      have OWN := Lib.hid own
      have KI := Lib.hid ki
      have hkp : (0 : Int) < (k : Int) := by omega
      have hwk : IntKind.i64.wrap ((k : Int) - 1) = (k : Int) - 1 := IntWalk.i64_in _ (by omega)
      have h01 : (1 : Int) ≤ (k : Int) := by omega
      have h02 : (k : Int) - 1 < (R.length : Int) := by omega
      have h03 : (k : Int) < (R.length : Int) := by omega
      have zi := ki.size
      clear hyl hyr hcl hcr own ki
      go_upto_region 6 with fail
      refine wp_region_held_drew (S := Ex wi) (by kernel_rfl) ((Ex.refl wi).drew) (fun hHeld => ?_)
      obtain ⟨wd, hwdx⟩ : ∃ wd : World, wd = World.drew wi := ⟨_, rfl⟩
      rw [← hwdx] at hHeld ⊢
      have hDrew : Ex wi wd := by rw [hwdx]; exact (Ex.refl wi).drew
      clear hwdx
      refine wpAnyH_take (i := 0) (oi := ⟨some 19, .move (.tmp 6), 22, "linear.go:52", #[], none⟩) (v := ?_) rfl (by kernel_rfl) (by kernel_rfl) (by kernel_rfl) (fun _ _ _ h => h) (Or.inl ⟨by rfl, ?hyr1x0q5⟩) (by assumption) ?restr1x0q5
      case hyr1x0q5 => intro wq hSw; (go_simp); (try with_reducible rfl)
      try simp only [Act.put, List.setIfInBounds_toArray, List.set_cons_zero, List.set_cons_succ]
      refine wpAnyH_take (i := 1) (oi := ⟨some 20, .move (.tmp 7), 3, "linear.go:52", #[], none⟩) (v := ?_) rfl (by kernel_rfl) (by kernel_rfl) (by kernel_rfl) (fun _ _ _ h => h) (Or.inl ⟨by rfl, ?hyr1x1q8⟩) (by assumption) ?restr1x1q8
      case hyr1x1q8 => intro wq hSw; (go_simp); (try with_reducible rfl)
      try simp only [Act.put, List.setIfInBounds_toArray, List.set_cons_zero, List.set_cons_succ]
      refine wpAnyH_take (i := 2) (oi := ⟨some 21, .binOp .sub 3 (.tmp 20) (.const (.int .i64 1)) 3, 3, "linear.go:52", #[⟨1, .data⟩], none⟩) (v := ?_) rfl (by kernel_rfl) (by kernel_rfl) (by kernel_rfl) (fun _ _ _ h => h) (Or.inl ⟨by rfl, ?hyr1x2q11⟩) (by assumption) ?restr1x2q11
      case hyr1x2q11 => intro wq hSw; (go_simp); (try with_reducible rfl)
      try simp only [Act.put, List.setIfInBounds_toArray, List.set_cons_zero, List.set_cons_succ]
      refine wpAnyH_take (i := 3) (oi := ⟨some 22, .indexAddr 22 (.tmp 19) (.tmp 21), 0, "linear.go:52", #[⟨0, .data⟩, ⟨2, .data⟩], none⟩) (v := ?_) rfl (by kernel_rfl) (by kernel_rfl) (by kernel_rfl) (fun _ _ _ h => h) (Or.inl ⟨by rfl, ?hyr1x3q14⟩) (by assumption) ?restr1x3q14
      case hyr1x3q14 => intro wq hSw; (go_simp); (try with_reducible rfl)
      try simp only [Act.put, List.setIfInBounds_toArray, List.set_cons_zero, List.set_cons_succ]
      refine wpAnyH_take (i := 4) (oi := ⟨some 23, .load 3 (.tmp 22), 3, "linear.go:52", #[⟨3, .data⟩], none⟩) (v := ?_) rfl (by kernel_rfl) (by kernel_rfl) (by kernel_rfl) (fun _ _ _ h => h) (Or.inl ⟨by rfl, ?hyr1x4q17⟩) (by assumption) ?restr1x4q17
      case hyr1x4q17 => intro wq hSw; (have cq := CL.out wq hSw; go_simp); (try with_reducible rfl)
      try simp only [Act.put, List.setIfInBounds_toArray, List.set_cons_zero, List.set_cons_succ]
      refine wpAnyH_take (i := 5) (oi := ⟨some 24, .move (.tmp 6), 22, "linear.go:52", #[], none⟩) (v := ?_) rfl (by kernel_rfl) (by kernel_rfl) (by kernel_rfl) (fun _ _ _ h => h) (Or.inl ⟨by rfl, ?hyr1x5q20⟩) (by assumption) ?restr1x5q20
      case hyr1x5q20 => intro wq hSw; (go_simp); (try with_reducible rfl)
      try simp only [Act.put, List.setIfInBounds_toArray, List.set_cons_zero, List.set_cons_succ]
      refine wpAnyH_take (i := 6) (oi := ⟨some 25, .move (.tmp 7), 3, "linear.go:52", #[], none⟩) (v := ?_) rfl (by kernel_rfl) (by kernel_rfl) (by kernel_rfl) (fun _ _ _ h => h) (Or.inl ⟨by rfl, ?hyr1x6q23⟩) (by assumption) ?restr1x6q23
      case hyr1x6q23 => intro wq hSw; (go_simp); (try with_reducible rfl)
      try simp only [Act.put, List.setIfInBounds_toArray, List.set_cons_zero, List.set_cons_succ]
      refine wpAnyH_take (i := 7) (oi := ⟨some 26, .indexAddr 22 (.tmp 24) (.tmp 25), 0, "linear.go:52", #[⟨5, .data⟩, ⟨6, .data⟩], none⟩) (v := ?_) rfl (by kernel_rfl) (by kernel_rfl) (by kernel_rfl) (fun _ _ _ h => h) (Or.inl ⟨by rfl, ?hyr1x7q26⟩) (by assumption) ?restr1x7q26
      case hyr1x7q26 => intro wq hSw; (go_simp); (try with_reducible rfl)
      try simp only [Act.put, List.setIfInBounds_toArray, List.set_cons_zero, List.set_cons_succ]
      refine wpAnyH_take (i := 8) (oi := ⟨some 27, .load 3 (.tmp 26), 3, "linear.go:52", #[⟨7, .data⟩], none⟩) (v := ?_) rfl (by kernel_rfl) (by kernel_rfl) (by kernel_rfl) (fun _ _ _ h => h) (Or.inl ⟨by rfl, ?hyr1x8q29⟩) (by assumption) ?restr1x8q29
      case hyr1x8q29 => intro wq hSw; (have cq := CR.out wq hSw; go_simp); (try with_reducible rfl)
      try simp only [Act.put, List.setIfInBounds_toArray, List.set_cons_zero, List.set_cons_succ]
      refine wpAnyH_take (i := 9) (oi := ⟨some 28, .build 98 #[(0, .tmp 23), (1, .tmp 27)], 98, "linear.go:52", #[⟨4, .data⟩, ⟨8, .data⟩], none⟩) (v := ?_) rfl (by kernel_rfl) (by kernel_rfl) (by kernel_rfl) (fun _ _ _ h => h) (Or.inl ⟨by rfl, ?hyr1x9q32⟩) (by assumption) ?restr1x9q32
      case hyr1x9q32 => intro wq hSw; (go_simp); (try with_reducible rfl)
      try simp only [Act.put, List.setIfInBounds_toArray, List.set_cons_zero, List.set_cons_succ]
      refine wpAnyH_take (i := 10) (oi := ⟨some 29, .move (.tmp 6), 22, "linear.go:52", #[], none⟩) (v := ?_) rfl (by kernel_rfl) (by kernel_rfl) (by kernel_rfl) (fun _ _ _ h => h) (Or.inl ⟨by rfl, ?hyr1x10q35⟩) (by assumption) ?restr1x10q35
      case hyr1x10q35 => intro wq hSw; (go_simp); (try with_reducible rfl)
      try simp only [Act.put, List.setIfInBounds_toArray, List.set_cons_zero, List.set_cons_succ]
      refine wpAnyH_take (i := 11) (oi := ⟨some 30, .move (.tmp 7), 3, "linear.go:52", #[], none⟩) (v := ?_) rfl (by kernel_rfl) (by kernel_rfl) (by kernel_rfl) (fun _ _ _ h => h) (Or.inl ⟨by rfl, ?hyr1x11q38⟩) (by assumption) ?restr1x11q38
      case hyr1x11q38 => intro wq hSw; (go_simp); (try with_reducible rfl)
      try simp only [Act.put, List.setIfInBounds_toArray, List.set_cons_zero, List.set_cons_succ]
      refine wpAnyH_take (i := 12) (oi := ⟨some 31, .indexAddr 22 (.tmp 29) (.tmp 30), 0, "linear.go:52", #[⟨10, .data⟩, ⟨11, .data⟩], none⟩) (v := ?_) rfl (by kernel_rfl) (by kernel_rfl) (by kernel_rfl) (fun _ _ _ h => h) (Or.inl ⟨by rfl, ?hyr1x12q41⟩) (by assumption) ?restr1x12q41
      case hyr1x12q41 => intro wq hSw; (go_simp); (try with_reducible rfl)
      try simp only [Act.put, List.setIfInBounds_toArray, List.set_cons_zero, List.set_cons_succ]
      refine wpAnyH_take (i := 13) (oi := ⟨some 32, .load 3 (.tmp 31), 3, "linear.go:52", #[⟨12, .data⟩], none⟩) (v := ?_) rfl (by kernel_rfl) (by kernel_rfl) (by kernel_rfl) (fun _ _ _ h => h) (Or.inl ⟨by rfl, ?hyr1x13q44⟩) (by assumption) ?restr1x13q44
      case hyr1x13q44 => intro wq hSw; (have cq := CR.out wq hSw; go_simp); (try with_reducible rfl)
      try simp only [Act.put, List.setIfInBounds_toArray, List.set_cons_zero, List.set_cons_succ]
      refine wpAnyH_take (i := 14) (oi := ⟨some 33, .move (.tmp 6), 22, "linear.go:52", #[], none⟩) (v := ?_) rfl (by kernel_rfl) (by kernel_rfl) (by kernel_rfl) (fun _ _ _ h => h) (Or.inl ⟨by rfl, ?hyr1x14q47⟩) (by assumption) ?restr1x14q47
      case hyr1x14q47 => intro wq hSw; (go_simp); (try with_reducible rfl)
      try simp only [Act.put, List.setIfInBounds_toArray, List.set_cons_zero, List.set_cons_succ]
      refine wpAnyH_take (i := 15) (oi := ⟨some 34, .move (.tmp 7), 3, "linear.go:52", #[], none⟩) (v := ?_) rfl (by kernel_rfl) (by kernel_rfl) (by kernel_rfl) (fun _ _ _ h => h) (Or.inl ⟨by rfl, ?hyr1x15q50⟩) (by assumption) ?restr1x15q50
      case hyr1x15q50 => intro wq hSw; (go_simp); (try with_reducible rfl)
      try simp only [Act.put, List.setIfInBounds_toArray, List.set_cons_zero, List.set_cons_succ]
      refine wpAnyH_take (i := 16) (oi := ⟨some 35, .binOp .sub 3 (.tmp 34) (.const (.int .i64 1)) 3, 3, "linear.go:52", #[⟨15, .data⟩], none⟩) (v := ?_) rfl (by kernel_rfl) (by kernel_rfl) (by kernel_rfl) (fun _ _ _ h => h) (Or.inl ⟨by rfl, ?hyr1x16q53⟩) (by assumption) ?restr1x16q53
      case hyr1x16q53 => intro wq hSw; (go_simp); (try with_reducible rfl)
      try simp only [Act.put, List.setIfInBounds_toArray, List.set_cons_zero, List.set_cons_succ]
      refine wpAnyH_take (i := 17) (oi := ⟨some 36, .indexAddr 22 (.tmp 33) (.tmp 35), 0, "linear.go:52", #[⟨14, .data⟩, ⟨16, .data⟩], none⟩) (v := ?_) rfl (by kernel_rfl) (by kernel_rfl) (by kernel_rfl) (fun _ _ _ h => h) (Or.inl ⟨by rfl, ?hyr1x17q56⟩) (by assumption) ?restr1x17q56
      case hyr1x17q56 => intro wq hSw; (go_simp); (try with_reducible rfl)
      try simp only [Act.put, List.setIfInBounds_toArray, List.set_cons_zero, List.set_cons_succ]
      refine wpAnyH_take (i := 18) (oi := ⟨some 37, .load 3 (.tmp 36), 3, "linear.go:52", #[⟨17, .data⟩], none⟩) (v := ?_) rfl (by kernel_rfl) (by kernel_rfl) (by kernel_rfl) (fun _ _ _ h => h) (Or.inl ⟨by rfl, ?hyr1x18q59⟩) (by assumption) ?restr1x18q59
      case hyr1x18q59 => intro wq hSw; (have cq := CL.out wq hSw; go_simp); (try with_reducible rfl)
      try simp only [Act.put, List.setIfInBounds_toArray, List.set_cons_zero, List.set_cons_succ]
      refine wpAnyH_take (i := 19) (oi := ⟨some 38, .build 98 #[(0, .tmp 32), (1, .tmp 37)], 98, "linear.go:52", #[⟨13, .data⟩, ⟨18, .data⟩], none⟩) (v := ?_) rfl (by kernel_rfl) (by kernel_rfl) (by kernel_rfl) (fun _ _ _ h => h) (Or.inl ⟨by rfl, ?hyr1x19q62⟩) (by assumption) ?restr1x19q62
      case hyr1x19q62 => intro wq hSw; (go_simp); (try with_reducible rfl)
      try simp only [Act.put, List.setIfInBounds_toArray, List.set_cons_zero, List.set_cons_succ]
      refine wpAnyH_take (i := 22) (oi := ⟨some 41, .move (.const (.int .i64 0)), 3, "linear.go:52", #[], none⟩) (v := ?_) rfl (by kernel_rfl) (by kernel_rfl) (by kernel_rfl) (fun _ _ _ h => h) (Or.inl ⟨by rfl, ?hyr1x22q65⟩) (by assumption) ?restr1x22q65
      case hyr1x22q65 => intro wq hSw; (go_simp); (try with_reducible rfl)
      try simp only [Act.put, List.setIfInBounds_toArray, List.set_cons_zero, List.set_cons_succ]
      refine wpAnyH_ready (rs := [20]) (by kernel_rfl) (by simp) ?_
      refine AllReadyH.cons (o := ⟨some 39, .buildSlice 95 2 #[(0, .tmp 28), (1, .tmp 38)], 95, "linear.go:52", #[⟨9, .data⟩, ⟨19, .data⟩], none⟩) rfl (fun K hK => ?_) AllReadyH.nil
      go_simp
      obtain ⟨g9, w3, hg9, hw3, SL, kk⟩ := litIn hHeld yl yr
      rw [← hg9, ← hw3]
      replace hHeld := kk
      clear hg9 hw3 kk
      refine hK.out _ _ (hHeld) (fun hHeld => ?_)
      clear hK K
      try simp only [Act.put, List.setIfInBounds_toArray, List.set_cons_zero, List.set_cons_succ]
      refine wpAnyH_take (i := 21) (oi := ⟨some 40, .call { callee := .builtin .len, args := #[.tmp 39], argTypes := #[95] }, 3, "linear.go:52", #[⟨20, .data⟩], none⟩) (v := ?_) rfl (by kernel_rfl) (by kernel_rfl) (by kernel_rfl) (fun _ _ _ h => h) (Or.inl ⟨by rfl, ?hyr1x21q78⟩) (by assumption) ?restr1x21q78
      case hyr1x21q78 => intro wq hSw; (go_simp); (try with_reducible rfl)
      try simp only [Act.put, List.setIfInBounds_toArray, List.set_cons_zero, List.set_cons_succ]
      refine wpAnyH_done (by kernel_rfl) ?_ _
      have SLh := Lib.hid SL
      have K3 := Lib.hid hHeld
      have OW3 := Lib.hid (OWN.out.nx hHeld)
      have z3 := hHeld.size
      have A0 := Lib.hid (Acc.start (β := w2.heap.size) (lo := wi.heap.size) (Nat.le_refl w3.heap.size) (fun g hg => .inl (OWN.out.blk_lt (g := g) hg)))
      clear SL hHeld OWN
      go_wp2_with fail
      go_loopw [5, 41] (fun o i wr => IiRel O p.id yl yr w2.heap.size wi.heap.size w3 o i wr) (fun _ i _ => 2 - (intOf i).toNat)
      case atStart => exact ⟨0, by omega, rfl, by simpa using OW3.out, A0.out⟩
      case round =>
        clear OW3 A0
        obtain ⟨q, hq, rfl, own, ac⟩ := hrel
        obtain ⟨wj, rfl⟩ : ∃ wj : World, wj = wr := ⟨_, rfl⟩
        have hql : (O ++ ((prT yl yr).take q).filter (notTo p.id)).length ≤ 100000 := by
          rw [List.length_append]
          have h1 := List.length_filter_le (notTo p.id) ((prT yl yr).take q)
          rw [List.length_take] at h1
          omega
        by_cases hq2 : q < 2
        · obtain ⟨x9, o9, y, hee, hx9, hy, hc9⟩ := (ac.sl SLh.out).at hq2
          cases hee
          have e0 : wj.cell? ⟨g9, q * 2, none⟩ = some (.int .i64 y.1) := by simpa using hc9 0 _ rfl
          have e1 : wj.cell? ⟨g9, q * 2 + 1, none⟩ = some (.int .i64 y.2) := by simpa using hc9 1 _ rfl
          have SQ := Lib.hid (prT_snoc (id := p.id) hy)
          generalize ((prT yl yr).take q).filter (notTo p.id) = F at own SQ hql
          have AC := Lib.hid ac
          have zb0 := (ac.ex (KI.out.nx K3.out)).size
          clear hy hc9 ac
          have B9 := Blk.new wj [.int .i64 y.1, .int .i64 y.2] 98
          have kk := Ex.new wj (.cells #[.int .i64 y.1, .int .i64 y.2] 98)
          obtain ⟨w4, hw4⟩ : ∃ w4, w4 = wj.alloc (.cells #[.int .i64 y.1, .int .i64 y.2] 98) := ⟨_, rfl⟩
          obtain ⟨g10, hg10⟩ : ∃ g10, g10 = wj.heap.size := ⟨_, rfl⟩
          replace B9 : Blk w4 g10 [.int .i64 y.1, .int .i64 y.2] 98 := by rw [hw4, hg10]; exact B9
          rw [← hw4] at kk
          have Hw4 := Lib.hid hw4
          have Hg10 := Lib.hid hg10
          replace own := own.nx kk
          have AC4 := Lib.hid (AC.out.nx kk)
          have zb : w2.heap.size ≤ w4.heap.size := Nat.le_trans zb0 kk.size
          clear kk hw4 hg10
          go_upto_region 9 with fail
          rw [← Hg10.out, ← Hw4.out]
          clear Hg10 Hw4
          have q0 := B9.cell 0 _ rfl
          have q1 := B9.cell 1 _ rfl
          have qp := (B3.out.nx (AC4.out.ex (KI.out.nx K3.out))).cell 0 _ rfl
          clear e0 e1 B9
          cases hT : notTo p.id y with
          | true =>
            have d1 : (y.1 != p.id) = true := hT
            have SF := Lib.hid (show ((prT yl yr).take (q + 1)).filter (notTo p.id) = F ++ [y] by rw [SQ.out, if_pos hT])
            have kl := Ex.new w4 (.cells #[.int .i64 y.1, .int .i64 y.2] 98)
            have own7 := own.nx kl
            have zc := Nat.le_trans zb kl.size
            clear hT
            go_wp2_with (at_builtin; (refine wpList_append_W (enc := encS) _ rfl _ _ 95 rfl w2.heap.size 98 (.agg #[.int .i64 0, .int .i64 0]) 2 16 Tryd.underlying95 Tryd.infoIn rfl (by omega) (by omega) _ _ own7 rfl _ 1 1 [y] (Sl.lit _ rfl rfl (fun _ => rfl) rfl) (fun _ => rfl) (by simp [encS, Value.oneCell']) rfl (by omega) (by omega) zc ?_); intro v6 w6 own6 ch0 ch1 hv)
            exact ⟨⟨q + 1, by omega, by go_num, by rw [SF.out, ← List.append_assoc]; exact own6, (AC4.out.nx kl).step (fun g hg => (own7.blk hg).1) ch0 hv⟩, by simp [intOf]; omega⟩
          | false =>
            have d1 : (y.1 != p.id) = false := hT
            have SF := Lib.hid (show ((prT yl yr).take (q + 1)).filter (notTo p.id) = F by rw [SQ.out, hT]; simp)
            have OF := Lib.hid own
            clear hT own
            go_wp2_with fail
            exact ⟨⟨q + 1, by omega, by go_num, by rw [SF.out]; exact OF.out, AC4.out⟩, by simp [intOf]; omega⟩
        · obtain rfl : q = 2 := by omega
          have OF := Lib.hid own
          have KF := Lib.hid (ac.ex (KI.out.nx K3.out))
          clear own ac hq hq2
          go_wp2_with fail
          refine ⟨⟨k + 1, by omega, by omega, by go_num, ?_, KF.out⟩, by simp [intOf]; omega⟩
          rw [show k + 1 - 1 = k - 1 + 1 by omega, SN.out, ← prT_all]
          exact OF.out
    · have HI : Hid (introsN N p = ((R.zip R.tail).take (k - 1)).flatMap (pr2 p.id)) := Lib.hid (IN.out _ (prs_all (by omega)).symm)
      generalize ((R.zip R.tail).take (k - 1)).flatMap (pr2 p.id) = O at own HI
      have FO := Lib.hid (own.lower z2)
      have FE := Lib.hid (EX2.out.nx ki)
      clear own ki
      go_wp2_with fail
      go_ret
      exact ⟨_, rfl, by rw [HI.out]; exact FO.out, FE.out⟩
end Go.Proofs.YtbnbjiddffihoaaDoor

/- nearest of the reference (printed by gen_nst.py). -/
namespace Go.Proofs.YtbnbjiddffihoaaDoor
open Go.RowKit

end Go.Proofs.YtbnbjiddffihoaaDoor

/- Peers of the package redundant and of its reference (printed by gen_prs.py). -/
namespace Go.Proofs.YtbnbjiddffihoaaDoor
open Go.RowKit

theorem OwnL.ne_blk {α : Type} {sz e base g' : Nat} {enc : α → List Value} {w : World} {v : Value} {l : List α} {cs : List Value} {ty : TypeId} (h : OwnL sz enc e base w v l) (B : Blk w g' cs ty) (hne : e ≠ ty) {g : Nat} (hg : v.ownBlock = some g) : g ≠ g' := by
  rintro rfl
  obtain ⟨_, cur, hh⟩ := h.blk hg
  exact blk_kind hne hh B
/-- a store into a block of another type -/
theorem OwnL.put {α : Type} {sz e base g' : Nat} {enc : α → List Value} {w w' : World} {v : Value} {l : List α} {cs : List Value} {ty : TypeId} (h : OwnL sz enc e base w v l) (B : Blk w g' cs ty) (hne : e ≠ ty) (k : Exb g' w w') : OwnL sz enc e base w' v l :=
  h.chg k fun _ hx hv => ⟨hx, h.ne_blk B hne hv⟩
end Go.Proofs.YtbnbjiddffihoaaDoor

/- Connected of the package redundant. -/
namespace Go.Proofs.YtbnbjiddffihoaaDoor
open Go.RowKit Go.Maps

/-! ### the rows of a map grow while a list of later memory is read -/
def AccM (β lo hi bm : Nat) (w6 wr : World) (f : Int → Value) : Prop :=
  Chg (fun k => k < hi ∧ k ≠ bm ∧ (k < β ∨ lo ≤ k)) w6 wr ∧ hi ≤ wr.heap.size ∧ ∀ v g, (f v).ownBlock = some g → g < lo ∨ hi ≤ g
section
variable {β lo hi bm : Nat} {w6 wr w9 : World} {f : Int → Value}
theorem AccM.sl {α : Type} {sz n : Nat} {enc : α → List Value} {a : Option Addr} {l : List α} {w5 w6 wr : World} (h : AccM β w5.heap.size w6.heap.size bm w6 wr f) (hb : bm < w5.heap.size) (s : Slf sz enc w5 w6 a n l) : Sl sz enc wr a n l :=
  (Rd.chg s h.1 (fun _ hk => ⟨hk.2, by omega, .inr hk.1⟩)).mono fun _ hk => Nat.lt_of_lt_of_le hk.2 h.2.1
theorem AccM.blk {g : Nat} {cs : List Value} {ty : TypeId} (h : AccM β lo w6.heap.size bm w6 wr f) (B : Blk w6 g cs ty) (hg : lo ≤ g) (hb : bm ≠ g) : Blk wr g cs ty :=
  (Chg.block h.1 g ⟨B.lt, fun h => hb h.symm, .inr hg⟩).trans B
theorem AccM.exb {w2 : World} (h : AccM β lo w6.heap.size bm w6 wr f) (k : Exb bm w2 w6) (hβ : w2.heap.size ≤ β) : Exb bm w2 wr :=
  Chg.trans k (Chg.mono h.1 fun x hx => ⟨Nat.lt_of_lt_of_le hx.1 k.size, hx.2, .inl (Nat.lt_of_lt_of_le hx.1 hβ)⟩)
end
theorem own_hist {va v : Value} {c s : Nat} (h : va.ownBlock = v.ownBlock ∨ va.ownBlock = some c) (hs : s ≤ c) : ∀ g, va.ownBlock = some g → v.ownBlock = some g ∨ s ≤ g := fun g hg => by
  rcases h with h | h
  · exact .inl (by rw [← h]; exact hg)
  · rw [h] at hg; cases hg; exact .inr hs
theorem hold_ex {bm g7 : Nat} {wp cur w' : World} (h : Chg (fun k => k = bm ∨ k = g7) wp cur) (hb : bm < wp.heap.size) (hg : g7 < wp.heap.size) (k : Ex cur w') : Chg (fun k => k = bm ∨ k = g7) wp w' :=
  Chg.trans h (Chg.mono k fun x hx => by have := h.size; show x < cur.heap.size; omega)
theorem hold_row {bm g7 : Nat} {wp cur w' : World} {v : Value} (h : Chg (fun k => k = bm ∨ k = g7) wp cur) (hb : bm < wp.heap.size) (hg : g7 < wp.heap.size) (n : ¬ v.ownBlock = some bm ∧ ¬ v.ownBlock = some g7) (k : Chg (fun k => k < cur.heap.size ∧ ¬ v.ownBlock = some k) cur w') : Chg (fun k => k = bm ∨ k = g7) wp w' :=
  Chg.trans h (Chg.mono k fun x hx => by
    have := h.size
    rcases hx with rfl | rfl
    · exact ⟨by omega, n.1⟩
    · exact ⟨by omega, n.2⟩)
theorem AccM.two {β lo hi bm : Nat} {w6 wp w1 w2 w3 : World} {f : Int → Value} {x y : Int} {va vc : Value} (h : AccM β lo hi bm w6 wp f) (hb : ∀ v g, (f v).ownBlock = some g → β ≤ g)
    (k1 : Chg (fun k => k < wp.heap.size ∧ ¬ (f x).ownBlock = some k) wp w1) (la : ∀ g, va.ownBlock = some g → (f x).ownBlock = some g ∨ wp.heap.size ≤ g)
    (k2 : Chg (fun k => k < w1.heap.size ∧ ¬ (f y).ownBlock = some k) w1 w2) (lc : ∀ g, vc.ownBlock = some g → (f y).ownBlock = some g ∨ w1.heap.size ≤ g) (k3 : Exb bm w2 w3) : AccM β lo hi bm w6 w3 (upd (upd f x va) y vc) := by
  have s1 := k1.size
  have s2 := k2.size
  have s3 := k3.size
  have hs := h.2.1
  have key : ∀ v k, k < hi ∧ k ≠ bm ∧ (k < β ∨ lo ≤ k) → ¬ (f v).ownBlock = some k := fun v k hk hv => by
    have h1 := hb v k hv
    have h2 := h.2.2 v k hv
    omega
  refine ⟨h.1.trans ((k1.mono fun k hk => ⟨by omega, key x k hk⟩).trans ((k2.mono fun k hk => ⟨by omega, key y k hk⟩).trans (Chg.mono k3 fun k hk => ⟨by omega, hk.2.1⟩))), by omega, fun v g hv => ?_⟩
  unfold upd at hv
  by_cases h1 : v = y
  · rw [if_pos h1] at hv
    rcases lc g hv with h2 | h2
    · exact h.2.2 y g h2
    · omega
  · rw [if_neg h1] at hv
    by_cases h3 : v = x
    · rw [if_pos h3] at hv
      rcases la g hv with h2 | h2
      · exact h.2.2 x g h2
      · omega
    · rw [if_neg h3] at hv
      exact h.2.2 v g hv
/-- the pairs of the first j nodes -/
def prsU (N : List Nd) (P : List Pr) (j : Nat) : List (Int × Int) := (N.take j).flatMap fun x => (refsN N (peerN P x.id)).map fun v => (x.id, v)
theorem prsU_snoc {N : List Nd} {P : List Pr} {j : Nat} {x : Nd} (hx : N[j]? = some x) : prsU N P (j + 1) = prsU N P j ++ (refsN N (peerN P x.id)).map fun v => (x.id, v) := by
  unfold prsU
  rw [take_snocN N j x hx, List.flatMap_append]
  simp
theorem prsU_all (N : List Nd) (P : List Pr) : prsU N P N.length = pairsN N P := by
  unfold prsU pairsN
  rw [List.take_of_length_le (Nat.le_refl _)]
theorem prsU_len {N : List Nd} (h0 : checkN N = 0) (P : List Pr) (j : Nat) : (prsU N P j).length ≤ 64 * 64 := by
  have h1 := pairs_len (P := P) h0 (N.take j)
  have h2 := check_len h0
  have h3 : (N.take j).length ≤ 64 := by rw [List.length_take]; omega
  unfold prsU
  exact Nat.le_trans h1 (Nat.mul_le_mul h3 h2)
abbrev GpM (base : Nat) (w : World) (b n : Nat) (f : Int → Value) (J : Int → List Int) : Prop := GrpM Tryd.prog 3 3 base w b n f J
theorem Tryd.zeroS (w : World) : (zeroValue 22).run Tryd.prog w = .ok nilS w := by kernel_rfl
theorem litF {wp u : World} (hz : wp.heap.size ≤ u.heap.size) (x : Int) : ∃ g v, g = u.heap.size ∧ v = u.alloc (.cells #[.int .i64 x] 3) ∧ Slf 1 encI wp v (some ⟨g, 0, none⟩) 1 [x] ∧ Ex u v :=
  ⟨_, _, rfl, rfl, Slf.lit [x] rfl hz rfl (fun _ => rfl) rfl, Ex.new _ _⟩
theorem Slf.row {α β : Type} {sz n sz' e base : Nat} {enc : α → List Value} {enc' : β → List Value} {w0 w w' : World} {a : Option Addr} {l : List α} {v : Value} {l' : List β} (s : Slf sz enc w0 w a n l) (h : OwnL sz' enc' e base w0 v l') (k : Chg (fun k => k < w.heap.size ∧ ¬ v.ownBlock = some k) w w') : Slf sz enc w0 w' a n l :=
  (Rd.chg s k fun _ hk => ⟨hk.2, fun hv => by have := (h.lt _ hv).2; have := hk.1; omega⟩).mono fun _ hk => ⟨hk.1, Nat.lt_of_lt_of_le hk.2 k.size⟩

theorem QuL.no {e : TypeId} {base : Nat} {w : World} {v : Value} (h : QuL e base w v []) : ∃ a c, v = .slice a 0 c := by
  rcases h with ⟨rfl, _⟩ | ⟨g, o, cap, cur, rfl, _⟩
  · exact ⟨none, 0, rfl⟩
  · exact ⟨_, cap, rfl⟩
theorem QuL.base {e : TypeId} {base base' : Nat} {w : World} {v : Value} {l : List Int} (h : QuL e base w v l) (hb : base' ≤ base) : QuL e base' w v l := by
  rcases h with h | ⟨g, o, cap, cur, h1, h2, h3⟩
  · exact .inl h
  · exact .inr ⟨g, o, cap, cur, h1, Nat.le_trans hb h2, h3⟩
theorem OwnL.rdz {α : Type} {sz e base : Nat} {enc : α → List Value} {w : World} {v : Value} {l : List α} (h : OwnL sz enc e base w v l) (hsz : ∀ y, (enc y).length = sz) :
    ∃ a cap, v = .slice a l.length cap ∧ Rd sz enc (fun k => base ≤ k ∧ k < w.heap.size) w a l.length l ∧ (a = none → cap = 0) := by
  obtain ⟨a, cap, e1, r, _⟩ := h.rd hsz
  refine ⟨a, cap, e1, r, fun h0 => ?_⟩
  subst h0
  rcases h.2 with ⟨e2, hn⟩ | ⟨g, cap', cur, e2, _⟩
  · rw [e1] at e2
    injection e2
  · rw [e1] at e2
    simp at e2
end Go.Proofs.YtbnbjiddffihoaaDoor

/- Groups of numbers: one row grows. -/
namespace Go.Proofs.YtbnbjiddffihoaaDoor
open Go.RowKit

def grp1 (J : Int → List Int) (x y : Int) : Int → List Int := fun v => if v = x then J x ++ [y] else J v
section
variable {P : Program} {k e : TypeId} {base : Nat} {w w' : World} {b n : Nat} {f : Int → Value} {J : Int → List Int}
theorem GrpM.one (h : GrpM P k e base w b n f J) {x y : Int} {w1 w3 : World} {a' : Value} {n' : Nat}
    (A : OwnL 1 encI e base w1 a' (J x ++ [y])) (k1 : Chg (fun k => k < w.heap.size ∧ ¬ (f x).ownBlock = some k) w w1) (la : ∀ g, a'.ownBlock = some g → (f x).ownBlock = some g ∨ w.heap.size ≤ g)
    (k3 : Exb b w1 w3) (R : RawM P k w3 b n' (upd f x a')) : GrpM P k e base w3 b n' (upd f x a') (grp1 J x y) := by
  obtain ⟨h1, hb, hs, hO, hd⟩ := h
  have s1 := k1.size
  have s3 := k3.size
  refine ⟨R, hb, by omega, fun v => ?_, fun v v' g hne hv hv' => ?_⟩
  · unfold upd grp1
    by_cases hvx : v = x
    · rw [if_pos hvx, if_pos hvx]
      exact A.nxb hb k3
    · rw [if_neg hvx, if_neg hvx]
      have O1 : OwnL 1 encI e base w1 (f v) (J v) := (hO v).chg k1 fun g hg hv => ⟨hg, hd v x g hvx hv⟩
      exact O1.nxb hb k3
  · unfold upd at hv hv'
    have ov : ∀ u g, u ≠ x → (f u).ownBlock = some g → ¬ a'.ownBlock = some g := by
      intro u g hux hu ha
      rcases la g ha with h2 | h2
      · exact hd u x g hux hu h2
      · have := ((hO u).lt g hu).2; omega
    by_cases hvx : v = x
    · rw [if_pos hvx] at hv
      rw [if_neg (by omega)] at hv'
      exact ov v' g (by omega) hv' hv
    · rw [if_neg hvx] at hv
      by_cases hvx' : v' = x
      · rw [if_pos hvx'] at hv'; exact ov v g hvx hv hv'
      · rw [if_neg hvx'] at hv'; exact hd v v' g hne hv hv'
end
end Go.Proofs.YtbnbjiddffihoaaDoor

/- Round of the package linear. -/
namespace Go.Proofs.YtbnbjiddffihoaaDoor
open Go.RowKit Go.Maps

theorem told_grp (M : List (Int × Int)) (m : Int × Int) : toldN (M ++ [m]) = grp1 (toldN M) m.1 m.2 := by
  funext id
  rw [told_snoc]
  unfold grp1
  by_cases h : id = m.1
  · subst h; simp
  · rw [if_neg (fun h2 => h h2.symm), if_neg h, List.append_nil]
theorem flat_len (N : List Nd) (Q : List Pr) : (Q.flatMap (introsN N)).length ≤ Q.length * (2 * N.length) := by
  induction Q with
  | nil => simp
  | cons p Q ih =>
    rw [List.flatMap_cons, List.length_append, List.length_cons, Nat.succ_mul]
    have := intros_len N p
    omega
theorem flat_snoc {N : List Nd} {Q : List Pr} {j : Nat} {p : Pr} (hp : Q[j]? = some p) : (Q.take (j + 1)).flatMap (introsN N) = (Q.take j).flatMap (introsN N) ++ introsN N p := by
  rw [List.take_add_one, hp, List.flatMap_append]
  simp
theorem intros_ids {N : List Nd} {p : Pr} {q : Int × Int} (h : q ∈ introsN N p) : ∃ x ∈ N, x.id = q.1 := ar_ids p _ (prs_from h).1
theorem normal_le (N : List Nd) (P : List Pr) : (normalN N P).length ≤ N.length ∧ (0 < (normalN N P).length → checkN N = 0) := by
  unfold normalN
  split
  · rename_i h; exact ⟨by rw [List.length_map, sortN_length]; exact Nat.le_refl _, fun _ => h⟩
  · exact ⟨Nat.zero_le _, fun h => by cases h⟩
theorem normal_small (N : List Nd) {P : List Pr} (h : SmallP P) : SmallP (normalN N P) := by
  intro p hp
  unfold normalN at hp
  split at hp
  · obtain ⟨x, _, rfl⟩ := List.mem_map.1 hp
    unfold peerN
    cases hf : P.find? fun p => p.id == x.id with
    | none => exact ⟨Nat.zero_le _, Nat.zero_le _⟩
    | some q => exact h q (List.mem_of_find?_eq_some hf)
  · cases hp
theorem normal_ids (N : List Nd) (P : List Pr) : ∀ p ∈ normalN N P, ∃ x ∈ N, x.id = p.id := by
  intro p hp
  unfold normalN at hp
  split at hp
  · obtain ⟨x, hx, rfl⟩ := List.mem_map.1 hp
    exact ⟨x, (sortN_mem N x).1 hx, (peer_id P x.id).symm⟩
  · cases hp
theorem AccM.one {β lo hi bm : Nat} {w6 wp w1 w3 : World} {f : Int → Value} {x : Int} {va : Value} (h : AccM β lo hi bm w6 wp f) (hb : ∀ v g, (f v).ownBlock = some g → β ≤ g)
    (k1 : Chg (fun k => k < wp.heap.size ∧ ¬ (f x).ownBlock = some k) wp w1) (la : ∀ g, va.ownBlock = some g → (f x).ownBlock = some g ∨ wp.heap.size ≤ g) (k3 : Exb bm w1 w3) : AccM β lo hi bm w6 w3 (upd f x va) := by
  have s1 := k1.size
  have s3 := k3.size
  have hs := h.2.1
  have key : ∀ v k, k < hi ∧ k ≠ bm ∧ (k < β ∨ lo ≤ k) → ¬ (f v).ownBlock = some k := fun v k hk hv => by
    have h1 := hb v k hv
    have h2 := h.2.2 v k hv
    omega
  refine ⟨h.1.trans ((k1.mono fun k hk => ⟨by omega, key x k hk⟩).trans (Chg.mono k3 fun k hk => ⟨by omega, hk.2.1⟩)), by omega, fun v g hv => ?_⟩
  unfold upd at hv
  by_cases h3 : v = x
  · rw [if_pos h3] at hv
    rcases la g hv with h2 | h2
    · exact h.2.2 x g h2
    · omega
  · rw [if_neg h3] at hv
    exact h.2.2 v g hv
theorem AccM.nxm {β lo hi bm : Nat} {w6 wr w9 : World} {f : Int → Value} (h : AccM β lo hi bm w6 wr f) (k : Ex wr w9) : AccM β lo hi bm w6 w9 f :=
  ⟨h.1.trans (Chg.mono k fun x hx => Nat.lt_of_lt_of_le hx.1 h.2.1), Nat.le_trans h.2.1 k.size, h.2.2⟩
def LrRel (N : List Nd) (Q : List Pr) (bm : Nat) (w : World) (i : Value) (wr : World) : Prop :=
  ∃ (j n : Nat) (f : Int → Value), j ≤ Q.length ∧ i = .int .i64 j ∧ GpM w.heap.size wr bm n f (toldN ((Q.take j).flatMap (introsN N))) ∧ n = ((Q.take j).flatMap (introsN N)).length ∧ Exb bm w wr
def LmRel (E M : List (Int × Int)) (bm lo : Nat) (w w6 : World) (i : Value) (wr : World) : Prop :=
  ∃ (j n : Nat) (f : Int → Value), j ≤ M.length ∧ i = .int .i64 j ∧ GpM w.heap.size wr bm n f (toldN (E ++ M.take j)) ∧ n = E.length + j ∧ AccM w.heap.size lo w6.heap.size bm w6 wr f
def LtRel (N : List Nd) (Q : List Pr) (M : List (Int × Int)) (qs : List PQ) (base : Nat) (w : World) (o i : Value) (wr : World) : Prop :=
  ∃ (j : Nat) (qz : List PQ), j ≤ Q.length ∧ i = .int .i64 j ∧ OwnPr base wr o qz ((Q.take j).map (rndP N M)) ∧ (∀ g, o.ownBlock = some g → w.heap.size ≤ g) ∧ (∀ (i : Nat) (q : PQ), qz[i]? = some q → ∃ q0, qs[i]? = some q0 ∧ q.2.2 = q0.2.2) ∧ Ex w wr
set_option maxRecDepth 100000 in
set_option maxHeartbeats 16000000 in
theorem lround_p (a : Option Addr) (n c : Nat) (N : List Nd) (a2 : Option Addr) (n2 c2 : Nat) (P : List Pr) (w : World) (h : Sl 3 encN w a n N) (hn : n ≤ 1000) (hc : n ≤ c) (hm : c ≤ maxLen) (h2 : PL w a2 n2 P) (hn2 : n2 ≤ 4000000000000000000) (hP : SmallP P) :
    Calls Tryd.prog 31 #[.slice a n c, .slice a2 n2 c2] w (PlPost (roundN N P) w) := by
  have HL := Lib.hid h.len
  go_enter Tryd.func31, Tryd.ntmps31
  go_wp2_with fail
  (with_reducible refine (normal_p _ _ _ N _ _ _ P _ h hn hc hm h2 hn2 hP).mono ?_)
  rintro e w3 ⟨v3, qs, rfl, OQ, kk⟩
  replace h := h.nx kk
  clear h2
  have K03 := Lib.hid kk
  obtain ⟨hQ1, hQ2⟩ := normal_le N P
  have HR := Lib.hid (roundN_eq N P)
  have HQS := Lib.hid (normal_small N hP)
  have HQI := Lib.hid (normal_ids N P)
  generalize normalN N P = Q at OQ hQ1 hQ2 HR HQS HQI
  have HQ2 := Lib.hid hQ2
  obtain ⟨aQ, cQ, rfl, PQ0, _, _, _, _⟩ := OQ.pl
  have HPQ := Lib.hid PQ0
  have HOQ := Lib.hid OQ
  have hQn : Q.length ≤ n := by have := HL.out; omega
  have hz3 := kk.size
  clear OQ PQ0 kk hQ1 hQ2 hP
  have HS3 := Lib.hid h
  clear h
  have G4 := GrpM.made w3 Tryd.prog 3 3
  have kk := Ex.new w3 (.map #[] 0)
  obtain ⟨w4, hw4⟩ : ∃ w4, w4 = w3.alloc (.map #[] 0) := ⟨_, rfl⟩
  obtain ⟨bm, hbm⟩ : ∃ bm, bm = w3.heap.size := ⟨_, rfl⟩
  have hsz4 : w4.heap.size = bm + 1 := by rw [hw4, hbm]; simp
  replace G4 : GpM w4.heap.size w4 bm 0 (fun _ => nilS) (fun _ => []) := by rw [hsz4, hw4, hbm]; exact G4
  rw [← hw4] at kk
  have Hw4 := Lib.hid hw4
  have Hbm := Lib.hid hbm
  have QL : Hid (Exl bm w3 w4) := Lib.hid ⟨kk, by omega⟩
  clear kk hw4 hbm
  have hmm := @run_makeMap Tryd.prog
  go_upto_region 3 with fail
  rw [← Hbm.out, ← Hw4.out]
  clear Hbm Hw4
  clear hmm
  have hbm4 : bm < w4.heap.size := by omega
  replace hsz4 := Lib.hid hsz4
  go_wp2_with fail
  go_loopw [22] (fun i wr => LrRel N Q bm w4 i wr) (fun i _ => Q.length - (intOf i).toNat)
  case atStart => exact ⟨0, 0, fun _ => nilS, by omega, rfl, G4, by simp, Exb.refl _ _⟩
  case round =>
    clear G4
    obtain ⟨j, nn, f, hj, rfl, GP, hnn, kw⟩ := hrel
    obtain ⟨wi, rfl⟩ : ∃ wi : World, wi = wr := ⟨_, rfl⟩
    have K3 := Lib.hid (QL.out.nxb kw).1
    have KW := Lib.hid kw
    have hbi : bm < wi.heap.size := Nat.lt_of_lt_of_le hbm4 kw.size
    have GW := Lib.hid GP
    have HNN := Lib.hid hnn
    clear kw GP hnn
    by_cases hjm : j < Q.length
    · have HC := Lib.hid (HQ2.out (by omega))
      have hN64 : N.length ≤ 64 := check_len HC.out
      have HI : Hid (∀ x ∈ N, I64 x.id) := Lib.hid (fun x hx => (roster_ok HC.out x hx).1.1)
      obtain ⟨x3, o3, b1, m1, d1, b4, m4, d4, y, rfl, hx3, hy, e0, e1, e2, e3, e4, s1, s4⟩ := (HPQ.out.nx K3.out).rd hjm
      have FS := Lib.hid (flat_snoc (N := N) hy)
      have hEl : ((Q.take j).flatMap (introsN N)).length ≤ 64 * 128 := by
        refine Nat.le_trans (flat_len N (Q.take j)) (Nat.mul_le_mul ?_ ?_)
        · rw [List.length_take]; have := HL.out; omega
        · omega
      have hyP := HQS.out y (List.mem_of_getElem? hy)
      have hl1 : m1 ≤ 4000000000000000000 := by have := s1.len; omega
      have hl4 : m4 ≤ 4000000000000000000 := by have := s4.len; omega
      have S1 := Lib.hid s1
      have S4 := Lib.hid s4
      generalize (Q.take j).flatMap (introsN N) = E at GW HNN FS hEl
      clear hy s1 s4 hyP
      have B8 := Blk.new wi [.int .i64 y.id, .slice b1 m1 d1, .int .i64 y.left, .int .i64 y.right, .slice b4 m4 d4] 41
      have kk := Ex.new wi (.cells #[.int .i64 y.id, .slice b1 m1 d1, .int .i64 y.left, .int .i64 y.right, .slice b4 m4 d4] 41)
      obtain ⟨w5, hw5⟩ : ∃ w5, w5 = wi.alloc (.cells #[.int .i64 y.id, .slice b1 m1 d1, .int .i64 y.left, .int .i64 y.right, .slice b4 m4 d4] 41) := ⟨_, rfl⟩
      obtain ⟨g8, hg8⟩ : ∃ g8, g8 = wi.heap.size := ⟨_, rfl⟩
      replace B8 : Blk w5 g8 [.int .i64 y.id, .slice b1 m1 d1, .int .i64 y.left, .int .i64 y.right, .slice b4 m4 d4] 41 := by rw [hw5, hg8]; exact B8
      rw [← hw5] at kk
      have Hw5 := Lib.hid hw5
      have Hg8 := Lib.hid hg8
      have K5 := Lib.hid kk
      clear kk hw5 hg8
      go_upto_region 6 with fail
      rw [← Hg8.out, ← Hw5.out]
      clear Hg8 Hw5
      have q0 := B8.cell 0 _ rfl
      have q1 := B8.cell 1 _ rfl
      have q2 := B8.cell 2 _ rfl
      have q3 := B8.cell 3 _ rfl
      have q4 := B8.cell 4 _ rfl
      clear e0 e1 e2 e3 e4 B8
      go_wp2_with fail
      (with_reducible refine (intros_p _ _ _ N y _ _ _ _ _ _ _ (HS3.out.nx (K3.out.nx K5.out)) hn hc hm (S1.out.nx K5.out) (S4.out.nx K5.out) hl1 hl4).mono ?_)
      rintro e w9 ⟨v9, rfl, o9, kk⟩
      clear q0 q1 q2 q3 q4
      obtain ⟨A9, C9, rfl, r9, _, _, _, _⟩ := o9.rd (fun _ => rfl)
      have K9 := Lib.hid (K5.out.nx kk)
      have R9 : Hid (Slf 2 encS wi w9 A9 (introsN N y).length (introsN N y)) := Lib.hid (Slf.old r9 K5.out.size)
      have hMl := intros_len N y
      have HMI : Hid (∀ q ∈ introsN N y, I64 q.1) := Lib.hid (fun q hq => by obtain ⟨x, hx, he⟩ := intros_ids hq; rw [← he]; exact HI.out x hx)
      generalize introsN N y = M at R9 hMl HMI FS r9 o9 ⊢
      have A0 : Hid (AccM w4.heap.size wi.heap.size w9.heap.size bm w9 w9 f) := Lib.hid ⟨Chg.refl _ _, Nat.le_refl _, fun v g hg => .inl ((GW.out.row v).lt g hg).2⟩
      have G9 := Lib.hid (GW.out.nx K9.out)
      clear r9 o9 kk
      go_wp2_with fail
      go_loopw [30] (fun i wr => LmRel E M bm wi.heap.size w4 w9 i wr) (fun i _ => M.length - (intOf i).toNat)
      case atStart => exact ⟨0, nn, f, by omega, rfl, by simpa using G9.out, by simpa using HNN.out, A0.out⟩
      case round =>
        clear A0 G9 GW
        obtain ⟨i, m, f2, hi, rfl, GP, hm2, ac⟩ := hrel
        obtain ⟨wp, rfl⟩ : ∃ wp : World, wp = wr := ⟨_, rfl⟩
        by_cases hil : i < M.length
        · obtain ⟨xr, or, z, rfl, hxr, hz, hcr⟩ := (ac.sl hbi R9.out).at (j := i) hil
          have f0 : wp.cell? ⟨xr, or + i * 2, none⟩ = some (.int .i64 z.1) := by simpa using hcr 0 _ rfl
          have f1 : wp.cell? ⟨xr, or + i * 2 + 1, none⟩ = some (.int .i64 z.2) := by simpa using hcr 1 _ rfl
          have LS : Hid (M.take (i + 1) = M.take i ++ [z]) := Lib.hid (by rw [List.take_add_one, hz]; rfl)
          have hzI := HMI.out z (List.mem_of_getElem? hz)
          have wx1 := Lib.hid (wf_of hzI)
          have JX := Lib.hid (told_len (E ++ M.take i) z.1)
          have hEM : (E ++ M.take i).length ≤ 64 * 128 + 128 := by rw [List.length_append, List.length_take]; omega
          generalize hJ : toldN (E ++ M.take i) = J at GP JX
          have HJ := Lib.hid hJ
          have jlx : (J z.1).length ≤ 10000 := Nat.le_trans JX.out (by omega)
          have GPH := Lib.hid GP
          have AC := Lib.hid ac
          have M2 := Lib.hid hm2
          have hm100 : m < 1000000 := by omega
          clear hcr hz hzI hJ GP ac hm2 JX hEM
          have B10 := Blk.new wp [.int .i64 z.1, .int .i64 z.2] 98
          have kk := Ex.new wp (.cells #[.int .i64 z.1, .int .i64 z.2] 98)
          obtain ⟨w6, hw6⟩ : ∃ w6, w6 = wp.alloc (.cells #[.int .i64 z.1, .int .i64 z.2] 98) := ⟨_, rfl⟩
          obtain ⟨g10, hg10⟩ : ∃ g10, g10 = wp.heap.size := ⟨_, rfl⟩
          replace B10 : Blk w6 g10 [.int .i64 z.1, .int .i64 z.2] 98 := by rw [hw6, hg10]; exact B10
          rw [← hw6] at kk
          have Hw6 := Lib.hid hw6
          have Hg10 := Lib.hid hg10
          have zg10 : wp.heap.size ≤ g10 := by omega
          replace GPH := Lib.hid (GPH.out.nx kk)
          replace AC := Lib.hid (AC.out.nxm kk)
          clear kk hw6 hg10
          go_upto_region 9 with fail
          rw [← Hg10.out, ← Hw6.out]
          clear Hg10 Hw6
          have BP := Lib.hid B10
          have zbp : bm < w6.heap.size := GPH.out.1.lt
          have zgp : g10 < w6.heap.size := B10.lt
          have NB : Hid (∀ v, ¬ (f2 v).ownBlock = some bm ∧ ¬ (f2 v).ownBlock = some g10) := Lib.hid (fun v => ⟨fun hv => by have := ((GPH.out.row v).lt bm hv).1; omega, fun hv => OwnL.ne_blk (GPH.out.row v) BP.out (by decide) hv rfl⟩)
          clear f0 f1 B10
          refine wp_region_late_drew (S := Chg (fun k => k = bm ∨ k = g10) w6) [11] (by kernel_rfl) ((Chg.refl _ w6).drew) (fun hHeld => ?_)
          obtain ⟨wd, hwdx⟩ : ∃ wd : World, wd = World.drew w6 := ⟨_, rfl⟩
          rw [← hwdx] at hHeld ⊢
          have hDrew : Ex w6 wd := by rw [hwdx]; exact (Ex.refl w6).drew
          clear hwdx
          refine wpAnyL_take (i := 0) (oi := ⟨some 34, .move (.tmp 6), 80, "linear.go:81", #[], none⟩) (v := ?_) rfl (by kernel_rfl) (by kernel_rfl) (by kernel_rfl) (fun _ _ _ h => h) (Or.inl ⟨by rfl, ?hyr1x0q5⟩) (by kernel_rfl) (by kernel_rfl) (by assumption) ?restr1x0q5
          case hyr1x0q5 => intro wq hSw; (go_simp); (try with_reducible rfl)
          try simp only [Act.put, List.setIfInBounds_toArray, List.set_cons_zero, List.set_cons_succ]
          refine wpAnyL_take (i := 1) (oi := ⟨some 35, .fieldAddr 98 (.tmp 10) 0, 0, "linear.go:81", #[], none⟩) (v := ?_) rfl (by kernel_rfl) (by kernel_rfl) (by kernel_rfl) (fun _ _ _ h => h) (Or.inl ⟨by rfl, ?hyr1x1q8⟩) (by kernel_rfl) (by kernel_rfl) (by assumption) ?restr1x1q8
          case hyr1x1q8 => intro wq hSw; (go_simp); (try with_reducible rfl)
          try simp only [Act.put, List.setIfInBounds_toArray, List.set_cons_zero, List.set_cons_succ]
          refine wpAnyL_take (i := 2) (oi := ⟨some 36, .load 3 (.tmp 35), 3, "linear.go:81", #[⟨1, .data⟩], none⟩) (v := ?_) rfl (by kernel_rfl) (by kernel_rfl) (by kernel_rfl) (fun _ _ _ h => h) (Or.inl ⟨by rfl, ?hyr1x2q11⟩) (by kernel_rfl) (by kernel_rfl) (by assumption) ?restr1x2q11
          case hyr1x2q11 => intro wq hSw; (have cq := ((show Blk wq g10 _ _ from (hSw.block g10 (.inr rfl)).trans BP.out).cell 0 _ rfl); go_simp); (try with_reducible rfl)
          try simp only [Act.put, List.setIfInBounds_toArray, List.set_cons_zero, List.set_cons_succ]
          refine wpAnyL_take (i := 3) (oi := ⟨some 37, .move (.tmp 6), 80, "linear.go:81", #[], none⟩) (v := ?_) rfl (by kernel_rfl) (by kernel_rfl) (by kernel_rfl) (fun _ _ _ h => h) (Or.inl ⟨by rfl, ?hyr1x3q14⟩) (by kernel_rfl) (by kernel_rfl) (by assumption) ?restr1x3q14
          case hyr1x3q14 => intro wq hSw; (go_simp); (try with_reducible rfl)
          try simp only [Act.put, List.setIfInBounds_toArray, List.set_cons_zero, List.set_cons_succ]
          refine wpAnyL_take (i := 4) (oi := ⟨some 38, .fieldAddr 98 (.tmp 10) 0, 0, "linear.go:81", #[], none⟩) (v := ?_) rfl (by kernel_rfl) (by kernel_rfl) (by kernel_rfl) (fun _ _ _ h => h) (Or.inl ⟨by rfl, ?hyr1x4q17⟩) (by kernel_rfl) (by kernel_rfl) (by assumption) ?restr1x4q17
          case hyr1x4q17 => intro wq hSw; (go_simp); (try with_reducible rfl)
          try simp only [Act.put, List.setIfInBounds_toArray, List.set_cons_zero, List.set_cons_succ]
          refine wpAnyL_take (i := 5) (oi := ⟨some 39, .load 3 (.tmp 38), 3, "linear.go:81", #[⟨4, .data⟩], none⟩) (v := ?_) rfl (by kernel_rfl) (by kernel_rfl) (by kernel_rfl) (fun _ _ _ h => h) (Or.inl ⟨by rfl, ?hyr1x5q20⟩) (by kernel_rfl) (by kernel_rfl) (by assumption) ?restr1x5q20
          case hyr1x5q20 => intro wq hSw; (have cq := ((show Blk wq g10 _ _ from (hSw.block g10 (.inr rfl)).trans BP.out).cell 0 _ rfl); go_simp); (try with_reducible rfl)
          try simp only [Act.put, List.setIfInBounds_toArray, List.set_cons_zero, List.set_cons_succ]
          refine wpAnyL_take (i := 6) (oi := ⟨some 40, .lookup 80 (.tmp 37) (.tmp 39) false, 22, "linear.go:81", #[⟨3, .data⟩, ⟨5, .data⟩], none⟩) (v := ?_) rfl (by kernel_rfl) (by kernel_rfl) (by kernel_rfl) (fun _ _ _ h => h) (Or.inl ⟨by rfl, ?hyr1x6q23⟩) (by kernel_rfl) (by kernel_rfl) (by assumption) ?restr1x6q23
          case hyr1x6q23 => intro wq hSw; (have lk := (RawM.same GPH.out.1 (hSw.block bm (.inl rfl))).get (t := 80) Tryd.underlying3 Tryd.underlying80 (Tryd.zeroS _) wx1.out; go_simp); (try with_reducible rfl)
          try simp only [Act.put, List.setIfInBounds_toArray, List.set_cons_zero, List.set_cons_succ]
          refine wpAnyL_take (i := 7) (oi := ⟨some 41, .fieldAddr 98 (.tmp 10) 1, 0, "linear.go:81", #[], none⟩) (v := ?_) rfl (by kernel_rfl) (by kernel_rfl) (by kernel_rfl) (fun _ _ _ h => h) (Or.inl ⟨by rfl, ?hyr1x7q26⟩) (by kernel_rfl) (by kernel_rfl) (by assumption) ?restr1x7q26
          case hyr1x7q26 => intro wq hSw; (go_simp); (try with_reducible rfl)
          try simp only [Act.put, List.setIfInBounds_toArray, List.set_cons_zero, List.set_cons_succ]
          refine wpAnyL_take (i := 8) (oi := ⟨some 42, .load 3 (.tmp 41), 3, "linear.go:81", #[⟨7, .data⟩], none⟩) (v := ?_) rfl (by kernel_rfl) (by kernel_rfl) (by kernel_rfl) (fun _ _ _ h => h) (Or.inl ⟨by rfl, ?hyr1x8q29⟩) (by kernel_rfl) (by kernel_rfl) (by assumption) ?restr1x8q29
          case hyr1x8q29 => intro wq hSw; (have cq := ((show Blk wq g10 _ _ from (hSw.block g10 (.inr rfl)).trans BP.out).cell 1 _ rfl); go_simp); (try with_reducible rfl)
          try simp only [Act.put, List.setIfInBounds_toArray, List.set_cons_zero, List.set_cons_succ]
          refine wpAnyL_ready (rs := [9]) (by kernel_rfl) (by simp) ?_
          refine AllReadyL.cons (o := ⟨some 43, .buildSlice 22 1 #[(0, .tmp 42)], 22, "linear.go:81", #[⟨8, .data⟩], none⟩) rfl (fun K hK => ?_) AllReadyL.nil
          go_simp
          obtain ⟨g8, wq, hg8, hwq, SX, kk⟩ := litF hHeld.size z.2
          rw [← hg8, ← hwq]
          clear hg8 hwq
          replace hDrew := hDrew.nx kk
          replace hHeld := hold_ex hHeld zbp zgp kk
          clear kk
          refine hK.out _ _ (hHeld) (fun hHeld => ?_)
          clear hK K
          try simp only [Act.put, List.setIfInBounds_toArray, List.set_cons_zero, List.set_cons_succ]
          refine wpAnyL_ready (rs := [10]) (by kernel_rfl) (by simp) ?_
          refine AllReadyL.cons (o := ⟨some 44, .call { callee := .builtin .append, args := #[.tmp 40, .tmp 43], argTypes := #[22, 22] }, 22, "linear.go:81", #[⟨6, .data⟩, ⟨9, .data⟩], none⟩) rfl (fun K hK => ?_) AllReadyL.nil
          rw [if_pos (by rfl)]
          have rx := (GPH.out.row z.1).nx hDrew
          have zbase := Nat.le_trans GPH.out.2.2.1 hDrew.size
          refine wp_append_rda (enc := encI) _ (.tmp 40) (.tmp 43) 22 rfl w4.heap.size 3 (.int .i64 0) 1 8 Tryd.underlying22 Tryd.infoI6 rfl (by omega) (by omega) _ (J z.1) rx rfl _ _ 1 1 [z.2] SX (fun h => by cases h) (fun _ => rfl) (by simp [encI, Value.oneCell']) rfl (by omega) (by omega) zbase ?_
          intro va w1 A ch0 ch1 hva
          have KA : Chg (fun k => k < w6.heap.size ∧ ¬ (f2 z.1).ownBlock = some k) w6 w1 := Chg.trans (Chg.mono hDrew (fun k hk => hk.1)) (Chg.mono ch0 (fun k hk => ⟨Nat.lt_of_lt_of_le hk.1 hDrew.size, hk.2⟩))
          have la := own_hist hva hDrew.size
          replace hHeld := hold_row hHeld zbp zgp (NB.out z.1) ch0
          clear ch0 ch1 hva rx hDrew SX
          refine hK.out _ _ (hHeld) (fun hHeld => ?_)
          clear hK K
          try simp only [Act.put, List.setIfInBounds_toArray, List.set_cons_zero, List.set_cons_succ]
          refine wpAnyL_ready (rs := [11]) (by kernel_rfl) (by simp) ?_
          refine AllReadyL.consL (o := ⟨none, .mapUpdate 80 (.tmp 34) (.tmp 36) (.tmp 44), 0, "linear.go:81", #[⟨0, .data⟩, ⟨2, .data⟩, ⟨10, .data⟩, ⟨10, .chain⟩, ⟨0, .phase⟩, ⟨1, .phase⟩, ⟨2, .phase⟩, ⟨3, .phase⟩, ⟨4, .phase⟩, ⟨5, .phase⟩, ⟨6, .phase⟩, ⟨7, .phase⟩, ⟨8, .phase⟩, ⟨9, .phase⟩, ⟨10, .phase⟩], none⟩) rfl (by rfl) (fun K hK => ?_) AllReadyL.nil
          have R2 := RawM.same GPH.out.1 (hHeld.block bm (.inl rfl))
          obtain ⟨wg, hrun, R3, k5, sz5⟩ := R2.put (t := 80) Tryd.underlying3 Tryd.underlying80 (by omega) wx1.out va
          go_simp
          clear hrun sz5 R2
          refine hK.out _ _ ?_
          clear hK K
          try simp only [Act.put, List.setIfInBounds_toArray, List.set_cons_zero, List.set_cons_succ]
          refine wpAnyL_done (by kernel_rfl) ?_ _
          have GN := GPH.out.one (x := z.1) (y := z.2) A KA la k5 R3
          have AN := AC.out.one (fun v g hg => ((GPH.out.row v).lt g hg).1) KA la k5
          have RR := Lib.hid (show LmRel E M bm wi.heap.size w4 w9 (.int .i64 ((i : Int) + 1)) wg from ⟨i + 1, m + 1, _, by omega, by go_num, by rw [LS.out, ← List.append_assoc, told_grp, HJ.out]; exact GN, by rw [M2.out]; omega, AN⟩)
          clear GN AN A KA la R3 k5 hHeld
          go_wp2_with fail
          exact ⟨RR.out, by simp [intOf]; omega⟩
        · obtain rfl : i = M.length := by omega
          rw [List.take_of_length_le (Nat.le_refl _), ← FS.out] at GP
          have RR := Lib.hid (show LrRel N Q bm w4 (.int .i64 ((j : Int) + 1)) wp from ⟨j + 1, m, f2, by omega, by go_num, GP, by rw [FS.out, List.length_append]; exact hm2, (ac.exb (KW.out.nxb (K9.out.b bm)) (Nat.le_refl _))⟩)
          clear GP ac
          go_wp2_with fail
          exact ⟨RR.out, by simp [intOf]; omega⟩
    · obtain rfl : j = Q.length := by omega
      have GP := GW.out
      rw [List.take_of_length_le (Nat.le_refl _)] at GP
      have HFL := flat_len N Q
      generalize Q.flatMap (introsN N) = M at GP HR HFL
      have GP := Lib.hid GP
      clear GW HNN hj hjm
      go_wp2_with fail
      go_loopw [11, 49] (fun o i wr => LtRel N Q M qs w.heap.size wi o i wr) (fun _ i _ => Q.length - (intOf i).toNat)
      case atStart => exact ⟨0, [], by omega, rfl, OwnP.nil _ _ _ _ _, (fun g hg => by cases hg), (by intro i q h; simp at h), Ex.refl _⟩
      case round =>
        obtain ⟨j2, qz, hj2, rfl, own, hblk, hnear, ki⟩ := hrel
        obtain ⟨wk, rfl⟩ : ∃ wk : World, wk = wr := ⟨_, rfl⟩
        have HB := Lib.hid hblk
        have HN := Lib.hid hnear
        clear hblk hnear
        by_cases hjm : j2 < Q.length
        · have HC := Lib.hid (HQ2.out (by omega))
          have hN64 : N.length ≤ 64 := check_len HC.out
          have own0 := HOQ.out.nx (K3.out.nx ki)
          obtain ⟨y, hy⟩ : ∃ y, Q[j2]? = some y := ⟨Q[j2], List.getElem?_eq_getElem hjm⟩
          obtain ⟨⟨A1, n1, c1⟩, ⟨A4, n4, c4⟩, hq, okn, onr⟩ := own0.get hy
          obtain ⟨a', cap', e', r', _⟩ := own0.1.rd encQ_len
          have hql : qs.length = Q.length := own0.2.1
          obtain ⟨x3, o3, q', ea, hx3, hq', hc3⟩ := Rd.at r' (j := j2) (by omega)
          obtain rfl : (y.nums, (A1, n1, c1), (A4, n4, c4)) = q' := Option.some.inj (hq.symm.trans hq')
          obtain rfl : aQ = some ⟨x3, o3, none⟩ := by injection e' with h1 h2 h3; rw [h1, ea]
          have e0 : wk.cell? ⟨x3, o3 + j2 * 5, none⟩ = some (.int .i64 y.id) := hc3 0 _ rfl
          have e1 : wk.cell? ⟨x3, o3 + j2 * 5 + 1, none⟩ = some (.slice A1 n1 c1) := hc3 1 _ rfl
          have e2 : wk.cell? ⟨x3, o3 + j2 * 5 + 1 + 1, none⟩ = some (.int .i64 y.left) := hc3 2 _ rfl
          have e3 : wk.cell? ⟨x3, o3 + j2 * 5 + 1 + 1 + 1, none⟩ = some (.int .i64 y.right) := hc3 3 _ rfl
          have e4 : wk.cell? ⟨x3, o3 + j2 * 5 + 1 + 1 + 1 + 1, none⟩ = some (.slice A4 n4 c4) := hc3 4 _ rfl
          have S1 : Hid (Sl 1 encI wk A1 n1 y.known) := Lib.hid (by obtain ⟨_, _, e, r, _⟩ := okn.rd (fun _ => rfl); injection e with h1 h2 h3; subst h1 h2 h3; exact r.mono (fun _ hk => hk.2))
          have S4 : Hid (Sl 4 encNr wk A4 n4 y.near) := Lib.hid (by obtain ⟨_, _, e, r, _⟩ := onr.rd (fun _ => rfl); injection e with h1 h2 h3; subst h1 h2 h3; exact r.mono (fun _ hk => hk.2))
          have hyP := HQS.out y (List.mem_of_getElem? hy)
          have hl1 : n1 ≤ 4000000000000000000 := by have := S1.out.len; omega
          have hl4 : n4 ≤ 4000000000000000000 := by have := S4.out.len; omega
          have ONR := Lib.hid onr
          have FN : Hid (∀ (j : Nat) (r : PQ) (g : Nat), qz[j]? = some r → j < j2 → r.2.2.val.ownBlock = some g → ¬ (Value.slice A4 n4 c4).ownBlock = some g) := Lib.hid (fun i r g hr hi hg hv => by
            obtain ⟨q0, h0, h1⟩ := HN.out i r hr
            rw [h1] at hg
            have := own0.2.2.2.2 i j2 q0 _ g h0 hq hg hv
            omega)
          have HQJ := Lib.hid hq
          have hqz : qz.length = j2 := by rw [own.2.1, List.length_map, List.length_take]; omega
          have hxN : ∃ x ∈ N, x.id = y.id := HQI.out y (List.mem_of_getElem? hy)
          have wx1 : Hid ((Lit.int .i64 y.id).wf = true) := Lib.hid (by obtain ⟨x, hx, he⟩ := hxN; rw [← he]; exact wf_of (roster_ok HC.out x hx).1.1)
          have SN : Hid ((Q.take (j2 + 1)).map (rndP N M) = (Q.take j2).map (rndP N M) ++ [rndP N M y]) := Lib.hid (by rw [List.take_add_one, hy, List.map_append]; rfl)
          have HRP : Hid (rndP N M y = { y with left := (keepN N y).1, right := (keepN N y).2, known := ordN N ([(keepN N y).1, (keepN N y).2] ++ toldN M y.id) y.id }) := Lib.hid rfl
          have OWN := Lib.hid own
          have KI := Lib.hid ki
          have hwi : w.heap.size ≤ wk.heap.size := (K03.out.nx (K3.out.nx ki)).size
          clear own0 hq okn onr e' r' hql hx3 hq' hc3 hyP hy own ki hxN
          have B13 := Blk.new wk [.int .i64 y.id, .slice A1 n1 c1, .int .i64 y.left, .int .i64 y.right, .slice A4 n4 c4] 41
          have kk := Ex.new wk (.cells #[.int .i64 y.id, .slice A1 n1 c1, .int .i64 y.left, .int .i64 y.right, .slice A4 n4 c4] 41)
          obtain ⟨w11, hw11⟩ : ∃ w11, w11 = wk.alloc (.cells #[.int .i64 y.id, .slice A1 n1 c1, .int .i64 y.left, .int .i64 y.right, .slice A4 n4 c4] 41) := ⟨_, rfl⟩
          obtain ⟨g13, hg13⟩ : ∃ g13, g13 = wk.heap.size := ⟨_, rfl⟩
          replace B13 : Blk w11 g13 [.int .i64 y.id, .slice A1 n1 c1, .int .i64 y.left, .int .i64 y.right, .slice A4 n4 c4] 41 := by rw [hw11, hg13]; exact B13
          rw [← hw11] at kk
          have Hw11 := Lib.hid hw11
          have Hg13 := Lib.hid hg13
          have K11 := Lib.hid kk
          clear kk hw11 hg13
          go_upto_region 16 with fail
          rw [← Hg13.out, ← Hw11.out]
          clear Hg13 Hw11
          have q0 := B13.cell 0 _ rfl
          have q1 := B13.cell 1 _ rfl
          have q2 := B13.cell 2 _ rfl
          have q3 := B13.cell 3 _ rfl
          have q4 := B13.cell 4 _ rfl
          clear e0 e1 e2 e3 e4
          go_wp2_with fail
          (with_reducible refine (keep_p _ _ _ N y _ _ _ _ _ _ _ (HS3.out.nx (K3.out.nx (KI.out.nx K11.out))) hn hc hm (S1.out.nx K11.out) (S4.out.nx K11.out) hl1 hl4).mono ?_)
          rintro e w12 ⟨rfl, kk⟩
          replace B13 := B13.nx kk
          replace K11 := Lib.hid (K11.out.nx kk)
          clear q0 q1 q2 q3 q4 kk
          generalize keepN N y = kl at HRP ⊢
          obtain ⟨kl, kr⟩ := kl
          simp only at HRP ⊢
          have B14 := Blk.new w12 [.int .i64 kl, .int .i64 kr] 92
          have kk := Ex.new w12 (.cells #[.int .i64 kl, .int .i64 kr] 92)
          obtain ⟨w13, hw13⟩ : ∃ w13, w13 = w12.alloc (.cells #[.int .i64 kl, .int .i64 kr] 92) := ⟨_, rfl⟩
          obtain ⟨g14, hg14⟩ : ∃ g14, g14 = w12.heap.size := ⟨_, rfl⟩
          replace B14 : Blk w13 g14 [.int .i64 kl, .int .i64 kr] 92 := by rw [hw13, hg14]; exact B14
          rw [← hw13] at kk
          have Hw13 := Lib.hid hw13
          have Hg14 := Lib.hid hg14
          replace B13 := B13.nx kk
          replace K11 := Lib.hid (K11.out.nx kk)
          clear kk hw13 hg14
          go_upto_region 17 with fail
          rw [← Hg14.out, ← Hw13.out]
          clear Hg14 Hw13
          have G13 := Lib.hid (GP.out.nx (KI.out.nx K11.out))
          have lk := G13.out.1.get (t := 80) Tryd.underlying3 Tryd.underlying80 (Tryd.zeroS _) wx1.out
          obtain ⟨aT, cT, eT, rT, _, _, _⟩ := (G13.out.row y.id).rd (fun _ => rfl)
          have ST : Hid (Sl 1 encI w13 aT (toldN M y.id).length (toldN M y.id)) := Lib.hid (rT.mono (fun _ hk => hk.2))
          have hlT : (toldN M y.id).length ≤ 4000000000000000000 := by
            have h1 := told_len M y.id
            have h2 : Q.length * (2 * N.length) ≤ 1000 * 128 := Nat.mul_le_mul (by omega) (by omega)
            omega
          rw [eT] at lk
          have q0 := B13.cell 0 _ rfl
          have q1 := B14.cell 0 _ rfl
          have q2 := B14.cell 1 _ rfl
          have KE := Lib.hid (known_eq HC.out y.id kl kr (toldN M y.id))
          generalize toldN M y.id = T at HRP lk ST hlT KE
          clear eT rT
          go_wp2_with fail
          (with_reducible refine (refs_p _ _ _ N ⟨y.id, kl, kr, T, []⟩ aT _ cT none 0 0 _ (HS3.out.nx (K3.out.nx (KI.out.nx K11.out))) (by omega) hc hm ST.out (Sl.nil _ _ _ _) hlT (by omega)).mono ?_)
          rintro e w14 ⟨vK, rfl, oK, kk⟩
          replace B13 := B13.nx kk
          replace B14 := B14.nx kk
          have hz13 := K11.out.size
          replace K11 := Lib.hid (K11.out.nx kk)
          rw [KE.out] at oK
          clear q0 q1 q2 lk ST kk
          have FK := Lib.hid (fun (j : Nat) (r : PQ) (g : Nat) (hr : qz[j]? = some r) (hg : r.2.1.val.ownBlock = some g) => (show g < wk.heap.size from by obtain ⟨_, _, _, r2, _⟩ := OWN.out.getp hr; exact (r2.lt g hg).2))
          obtain ⟨AK, CK, rfl, _, _, _, _⟩ := oK.slf (fun _ => rfl)
          have OKL := Lib.hid (fun g hg => (oK.lt g hg).1)
          replace oK := Lib.hid (oK.base (Nat.le_trans hwi hz13))
          generalize hkn : ordN N ([kl, kr] ++ T) y.id = kn at HRP oK OKL
          clear hkn
          have q0 := B13.cell 0 _ rfl
          have q4 := B13.cell 4 _ rfl
          have q1 := B14.cell 0 _ rfl
          have q2 := B14.cell 1 _ rfl
          clear B13 B14
          have kl2 := Ex.new w14 (.cells #[.int .i64 y.id, .slice AK kn.length CK, .int .i64 kl, .int .i64 kr, .slice A4 n4 c4] 41)
          have OP := OWN.out.nx (K11.out.nx kl2)
          have KN := Lib.hid (K11.out.nx kl2)
          have zn := Nat.le_trans hwi KN.out.size
          go_wp2_with (at_builtin; (refine wpList_append_W (enc := encQ) _ rfl _ _ 36 rfl w.heap.size 41 (.agg #[.int .i64 0, .slice none 0 0, .int .i64 0, .int .i64 0, .slice none 0 0]) 5 72 Tryd.underlying36 Tryd.infoPr rfl (by omega) (by omega) _ qz OP.row rfl _ 1 1 [((y.id, kl, kr), (AK, kn.length, CK), (A4, n4, c4))] (Sl.lit _ rfl rfl encQ_len rfl) encQ_len encQ_one rfl (by omega) (by omega) zn ?_); intro v9 w9 own9 ch0 ch1 hv)
          have RR := OP.push (p := ⟨y.id, kl, kr, kn, y.near⟩) (hk := (AK, kn.length, CK)) (hn := (A4, n4, c4)) (by decide) (by decide) own9 ch0 (oK.out.nx kl2) (ONR.out.nx KN.out)
            (fun j r g hr hg hv => by have h1 := FK.out j r g hr hg; have h2 := OKL.out g hv; omega)
            (fun j r g hr hg hv => FN.out j r g hr (by have := (List.getElem?_eq_some_iff.1 hr).1; omega) hg hv)
          have KF : Ex wi w9 := Chg.trans (KI.out.nx KN.out) (ch0.mono (fun k (hk : k < wi.heap.size) => ⟨Nat.lt_of_lt_of_le hk (KI.out.nx KN.out).size, fun hg => by have := HB.out k hg; omega⟩))
          refine ⟨⟨j2 + 1, _, by omega, by go_num, by rw [SN.out, HRP.out]; exact RR, fun g hg => ?_, fun i q hi => ?_, KF⟩, by simp [intOf]; omega⟩
          · rcases hv with h1 | h1
            · exact HB.out g (by rw [← h1]; exact hg)
            · exact Nat.le_trans (KI.out.nx KN.out).size (h1 g hg)
          · rcases Nat.lt_or_ge i qz.length with h1 | h1
            · rw [List.getElem?_append_left h1] at hi
              exact HN.out i q hi
            · have h2 := (List.getElem?_eq_some_iff.1 hi).1
              rw [List.length_append, List.length_singleton] at h2
              obtain rfl : i = j2 := by omega
              rw [List.getElem?_append_right (by omega), hqz, Nat.sub_self] at hi
              simp only [List.getElem?_cons_zero, Option.some.injEq] at hi
              subst hi
              exact ⟨_, HQJ.out, rfl⟩
        · obtain rfl : j2 = Q.length := by omega
          rw [List.take_of_length_le (Nat.le_refl _)] at own
          have FO := Lib.hid own
          have FE := Lib.hid (K03.out.nx (K3.out.nx ki))
          clear own ki
          go_wp2_with fail
          go_ret
          exact ⟨_, qz, rfl, by rw [HR.out]; exact FO.out, FE.out⟩
end Go.Proofs.YtbnbjiddffihoaaDoor

/- Exact and Rounds of the package linear. -/
namespace Go.Proofs.YtbnbjiddffihoaaDoor
open Go.RowKit Go.Maps

theorem rounds16_p (n : Int) (w : World) : Calls Tryd.prog 29 #[.int .i64 n] w fun e w' => e = .returned (.int .i64 (max n 0)) ∧ w = w' := by
  go_enter Tryd.func29, Tryd.ntmps29
  go_wp2
  go_ret
  exact ⟨rfl, rfl⟩
theorem okL_eq (N : List Nd) (p : Pr) : okL N p = decide ((p.left, p.right) = (neighN N p.id 0).1) := by unfold okL; rw [show ((0 : Nat) : Int) = 0 from rfl]
def ExRel (N : List Nd) (Q : List Pr) (w : World) (i : Value) (wr : World) : Prop :=
  ∃ j : Nat, j ≤ Q.length ∧ i = .int .i64 j ∧ (∀ i p, i < j → Q[i]? = some p → okL N p = true) ∧ Ex w wr
set_option maxRecDepth 100000 in
set_option maxHeartbeats 4000000 in
theorem exact16_p (a : Option Addr) (n c : Nat) (N : List Nd) (a2 : Option Addr) (n2 c2 : Nat) (P : List Pr) (w : World) (h : Sl 3 encN w a n N) (hn : n ≤ 1000) (hc : n ≤ c) (hm : c ≤ maxLen) (hw : ∀ x ∈ N, x.word < 4294967296) (hT : TabG w) (h2 : PL w a2 n2 P) (hn2 : n2 ≤ 4000000000000000000) (hP : SmallP P) :
    Calls Tryd.prog 30 #[.slice a n c, .slice a2 n2 c2] w fun e w' => e = .returned (.bool (exactLB N P)) ∧ Ex w w' := by
  have HW := Lib.hid hw
  have EX := Ex.refl w
  clear hw
  go_enter Tryd.func30, Tryd.ntmps30
  go_wp2_with fail
  (with_reducible refine (check_p _ _ _ _ _ h (by omega) hc hm).mono ?_)
  rintro e w1 ⟨rfl, kk⟩
  replace h := h.nx kk
  replace h2 := h2.nx kk
  replace hT := hT.nx kk
  replace EX := EX.nx kk
  clear kk
  by_cases hck : checkN N = 0
  case neg =>
    have d1 : (checkN N != 0) = true := by simpa using hck
    have E0 : Hid (exactLB N P = false) := Lib.hid (by unfold exactLB; rw [show (checkN N == 0) = false by simpa using hck, Bool.false_and])
    have EX := Lib.hid EX
    clear h h2 hT hck
    go_wp2_with fail
    go_ret
    exact ⟨by rw [E0.out]; rfl, EX.out⟩
  have d1 : (checkN N != 0) = false := by simpa using hck
  have E0 : Hid (exactLB N P = (normalN N P).all (okL N)) := Lib.hid (by unfold exactLB; rw [show (checkN N == 0) = true by simpa using hck, Bool.true_and])
  clear hck
  go_wp2_with fail
  (with_reducible refine (normal_p _ _ _ N _ _ _ P _ h hn hc hm h2 hn2 hP).mono ?_)
  rintro e w3 ⟨v3, qs, rfl, OQ, kk⟩
  replace h := h.nx kk
  replace hT := hT.nx kk
  replace EX := EX.nx kk
  clear kk
  clear h2 hP
  have hQb : (normalN N P).length ≤ 1000 := by have h1 := (normal_le N P).1; have h2 := h.len; omega
  generalize normalN N P = Q at OQ E0 hQb
  obtain ⟨aQ, cQ, rfl, PQ0, _, _, _, _⟩ := OQ.pl
  have HPQ := Lib.hid PQ0
  have HS := Lib.hid h
  have HT := Lib.hid hT
  have EX := Lib.hid EX
  clear OQ PQ0 h hT
  go_wp2_with fail
  go_loopw [16] (fun i wr => ExRel N Q w3 i wr) (fun i _ => Q.length - (intOf i).toNat)
  case atStart => exact ⟨0, by omega, rfl, fun i p hi => by omega, Ex.refl _⟩
  case round =>
    obtain ⟨j, hj, rfl, hall, ki⟩ := hrel
    obtain ⟨wi, rfl⟩ : ∃ wi : World, wi = wr := ⟨_, rfl⟩
    have HALL := Lib.hid hall
    clear hall
    by_cases hjm : j < Q.length
    · obtain ⟨x3, o3, b1, m1, d1, b4, m4, d4, y, rfl, hx3, hy, e0, e1, e2, e3, e4, s1, s4⟩ := (HPQ.out.nx ki).rd hjm
      have HY := Lib.hid hy
      have HOK : Hid (okL N y = decide ((y.left, y.right) = (neighN N y.id 0).1)) := Lib.hid (okL_eq N y)
      have KI := Lib.hid ki
      clear hy s1 s4 ki
      have B6 := Blk.new wi [.int .i64 y.id, .slice b1 m1 d1, .int .i64 y.left, .int .i64 y.right, .slice b4 m4 d4] 41
      have kk := Ex.new wi (.cells #[.int .i64 y.id, .slice b1 m1 d1, .int .i64 y.left, .int .i64 y.right, .slice b4 m4 d4] 41)
      obtain ⟨w5, hw5⟩ : ∃ w5, w5 = wi.alloc (.cells #[.int .i64 y.id, .slice b1 m1 d1, .int .i64 y.left, .int .i64 y.right, .slice b4 m4 d4] 41) := ⟨_, rfl⟩
      obtain ⟨g6, hg6⟩ : ∃ g6, g6 = wi.heap.size := ⟨_, rfl⟩
      replace B6 : Blk w5 g6 [.int .i64 y.id, .slice b1 m1 d1, .int .i64 y.left, .int .i64 y.right, .slice b4 m4 d4] 41 := by rw [hw5, hg6]; exact B6
      rw [← hw5] at kk
      have Hw5 := Lib.hid hw5
      have Hg6 := Lib.hid hg6
      have K5 := Lib.hid (KI.out.nx kk)
      clear kk hw5 hg6
      go_upto_region 6 with fail
      rw [← Hg6.out, ← Hw5.out]
      clear Hg6 Hw5
      have q0 := B6.cell 0 _ rfl
      clear e0 e1 e2 e3 e4
      go_wp2_with fail
      (with_reducible refine (neigh_p _ _ _ N y.id 0 _ (HS.out.nx K5.out) hn hc hm HW.out (HT.out.nx K5.out)).mono ?_)
      rintro e w6 ⟨rfl, kk⟩
      replace B6 := B6.nx kk
      replace K5 := Lib.hid (K5.out.nx kk)
      clear q0 kk
      generalize neighN N y.id 0 = ng at HOK ⊢
      obtain ⟨⟨nl, nr⟩, okn⟩ := ng
      simp only at HOK ⊢
      have B7 := Blk.new w6 [.int .i64 nl, .int .i64 nr] 92
      have kk := Ex.new w6 (.cells #[.int .i64 nl, .int .i64 nr] 92)
      obtain ⟨w7, hw7⟩ : ∃ w7, w7 = w6.alloc (.cells #[.int .i64 nl, .int .i64 nr] 92) := ⟨_, rfl⟩
      obtain ⟨g7, hg7⟩ : ∃ g7, g7 = w6.heap.size := ⟨_, rfl⟩
      replace B7 : Blk w7 g7 [.int .i64 nl, .int .i64 nr] 92 := by rw [hw7, hg7]; exact B7
      rw [← hw7] at kk
      have Hw7 := Lib.hid hw7
      have Hg7 := Lib.hid hg7
      replace B6 := B6.nx kk
      replace K5 := Lib.hid (K5.out.nx kk)
      clear kk hw7 hg7
      go_upto_region 7 with fail
      rw [← Hg7.out, ← Hw7.out]
      clear Hg7 Hw7
      have q2 := B6.cell 2 _ rfl
      have q3 := B6.cell 3 _ rfl
      have r0 := B7.cell 0 _ rfl
      have r1 := B7.cell 1 _ rfl
      clear B6 B7
      by_cases hyes : y.left = nl ∧ y.right = nr
      · have HT1 : Hid (okL N y = true) := Lib.hid (by rw [HOK.out, hyes.1, hyes.2]; simp)
        rw [hyes.1] at q2
        rw [hyes.2] at q3
        clear hyes HOK
        go_wp2_with fail
        refine ⟨⟨j + 1, by omega, by go_num, fun i p hi hp => ?_, K5.out⟩, by simp [intOf]; omega⟩
        rcases Nat.lt_or_ge i j with h | h
        · exact HALL.out i p h hp
        · obtain rfl : i = j := by omega
          rw [Option.some.inj (hp.symm.trans HY.out)]
          exact HT1.out
      · have HT1 : Hid (okL N y = false) := Lib.hid (by
          rw [HOK.out]
          simp only [decide_eq_false_iff_not, Prod.mk.injEq]
          exact hyes)
        have FIN : Hid (exactLB N P = false) := Lib.hid (by
          rw [E0.out, List.all_eq_false]
          exact ⟨y, List.mem_of_getElem? HY.out, by rw [HT1.out]; decide⟩)
        have KF := Lib.hid (EX.out.nx K5.out)
        clear HOK
        by_cases hd : nl = y.left
        · have hd2 : ¬ nr = y.right := fun h => hyes ⟨hd.symm, h.symm⟩
          rw [hd] at r0
          clear hyes hd
          go_wp2_with fail
          go_ret
          exact ⟨by rw [FIN.out]; rfl, KF.out⟩
        · clear hyes
          go_wp2_with fail
          go_ret
          exact ⟨by rw [FIN.out]; rfl, KF.out⟩
    · obtain rfl : j = Q.length := by omega
      have FIN : Hid (exactLB N P = true) := Lib.hid (by
        rw [E0.out, List.all_eq_true]
        intro p hp
        obtain ⟨i, hi⟩ := List.mem_iff_getElem?.1 hp
        exact HALL.out i p (List.getElem?_eq_some_iff.1 hi).1 hi)
      have KF := Lib.hid (EX.out.nx ki)
      clear ki
      go_wp2_with fail
      go_ret
      exact ⟨by rw [FIN.out]; rfl, KF.out⟩
end Go.Proofs.YtbnbjiddffihoaaDoor

/- The statements of chapter 16 about chains and garbage, in plain Lean. -/
namespace Go.Proofs.YtbnbjiddffihoaaDoor
open Go.RowKit

section
variable {N : List Nd} {P : List Pr}
/-- neighbours in the list of the nodes refer to each other, in one direction at least -/
theorem conn_line (h0 : checkN N = 0) (h : ∀ A a b B, N = A ++ a :: b :: B → EdgeN N P a.id b.id ∨ EdgeN N P b.id a.id) : ConnN N P := by
  refine ⟨h0, fun x hx y hy => ?_⟩
  have := chain_cl (R := fun u v => EdgeN N P u v ∨ EdgeN N P v u) N h x hx y hy
  refine Cl.mono (R := fun u v => EdgeN N P u v ∨ EdgeN N P v u) (fun a b hab => ?_) this
  exact Cl.one hab
theorem ids_ne (h0 : checkN N = 0) {i j : Nat} {a b : Nd} (ha : N[i]? = some a) (hb : N[j]? = some b) (hij : i ≠ j) : a.id ≠ b.id := by
  rcases Nat.lt_or_gt_of_ne hij with h | h
  · exact ((check_keys h0 j i b a h hb ha).2).symm
  · exact (check_keys h0 i j a b h ha hb).2
theorem peer_at {i : Nat} {p : Pr} (hp : P[i]? = some p) (hd : ∀ j q, j < i → P[j]? = some q → q.id ≠ p.id) : peerN P p.id = p := by
  unfold peerN
  have : P.find? (fun q => q.id == p.id) = some p := by
    rw [List.find?_eq_some_iff_getElem]
    obtain ⟨h1, h2⟩ := List.getElem?_eq_some_iff.1 hp
    refine ⟨by simp, i, h1, h2, fun j hj => ?_⟩
    have := hd j _ hj (List.getElem?_eq_getElem (by omega))
    simpa using this
  rw [this]
  rfl
/-- the peers are those of the nodes, in order -/
def SameIds (N : List Nd) (P : List Pr) : Prop := P.length = N.length ∧ ∀ (i : Nat) (x : Nd) (p : Pr), N[i]? = some x → P[i]? = some p → p.id = x.id
theorem same_peer (h0 : checkN N = 0) (hs : SameIds N P) {i : Nat} {x : Nd} {p : Pr} (hx : N[i]? = some x) (hp : P[i]? = some p) : peerN P x.id = p := by
  rw [← hs.2 i x p hx hp]
  refine peer_at hp fun j q hj hq => ?_
  obtain ⟨y, hy⟩ : ∃ y, N[j]? = some y := ⟨N[j]'(by have := (List.getElem?_eq_some_iff.1 hq).1; have := hs.1; omega), by simp⟩
  rw [hs.2 i x p hx hp, hs.2 j y q hy hq]
  exact ids_ne h0 hy hx (by omega)
/-- each peer but the first knows the one before it -/
theorem back_conn (h0 : checkN N = 0) (hs : SameIds N P) (hk : ∀ (i : Nat) (x : Nd) (p : Pr), N[i]? = some x → P[i + 1]? = some p → x.id ∈ p.known) : ConnN N P := by
  refine conn_line h0 fun A a b B e => .inr ?_
  have ha : N[A.length]? = some a := by rw [e]; simp
  have hb : N[A.length + 1]? = some b := by rw [e]; simp
  obtain ⟨p, hp⟩ : ∃ p, P[A.length + 1]? = some p := ⟨P[A.length + 1]'(by have := (List.getElem?_eq_some_iff.1 hb).1; have := hs.1; omega), by simp⟩
  have h1 := hk _ a p ha hp
  refine ⟨⟨b, List.mem_of_getElem? hb, rfl⟩, ?_⟩
  rw [same_peer h0 hs hb hp, mem_refs h0]
  refine ⟨⟨a, List.mem_of_getElem? ha, rfl⟩, ?_, ?_⟩
  · rw [hs.2 _ b p hb hp]
    exact ids_ne h0 ha hb (by omega)
  · unfold numsP
    simp [h1]
theorem peer_perm {P Q : List Pr} (hp : P.Perm Q) (hd : P.Pairwise fun p q => p.id ≠ q.id) (id : Int) : peerN P id = peerN Q id := by
  have hd' : Q.Pairwise fun p q => p.id ≠ q.id := (hp.pairwise_iff (fun {x y} h => Ne.symm h)).1 hd
  by_cases h : ∃ p ∈ P, p.id = id
  · obtain ⟨p, hpP, rfl⟩ := h
    have hpQ := hp.mem_iff.1 hpP
    obtain ⟨i, hi⟩ := List.mem_iff_getElem?.1 hpP
    obtain ⟨j, hj⟩ := List.mem_iff_getElem?.1 hpQ
    have one : ∀ {R : List Pr} {k : Nat}, R.Pairwise (fun p q => p.id ≠ q.id) → R[k]? = some p → ∀ j q, j < k → R[j]? = some q → q.id ≠ p.id := by
      intro R k hR hk j q hjk hq
      obtain ⟨h1, e1⟩ := List.getElem?_eq_some_iff.1 hq
      obtain ⟨h2, e2⟩ := List.getElem?_eq_some_iff.1 hk
      have := List.pairwise_iff_getElem.1 hR j k h1 h2 hjk
      rwa [e1, e2] at this
    rw [peer_at hi (one hd hi), peer_at hj (one hd' hj)]
  · have gen : ∀ {R : List Pr}, (∀ p ∈ R, p.id ≠ id) → peerN R id = ⟨id, 0, 0, [], []⟩ := by
      intro R hR
      unfold peerN
      have : R.find? (fun q => q.id == id) = none := by
        rw [List.find?_eq_none]
        intro q hq
        simpa using hR q hq
      rw [this]
      rfl
    rw [gen (fun p hp he => h ⟨p, hp, he⟩), gen (fun p hpq he => h ⟨p, hp.mem_iff.2 hpq, he⟩)]
theorem eqv_refl (N : List Nd) (p : Pr) : EqvP N p p := ⟨rfl, rfl, fun _ _ => Iff.rfl⟩
/-- one more number in Known that is not that of a node -/
theorem eqv_more {id : Int} (hid : ∀ x ∈ N, x.id ≠ id) (p : Pr) : EqvP N p { p with known := p.known ++ [id] } := by
  refine ⟨rfl, rfl, fun y hy => ?_⟩
  unfold numsP
  have := hid y hy
  simp only [List.mem_append, List.mem_cons, List.not_mem_nil, or_false]
  constructor
  · rintro ((h | h) | h)
    · exact .inl (.inl (.inl h))
    · exact .inl (.inr h)
    · exact .inr h
  · rintro (((h | h) | h) | h)
    · exact .inl (.inl h)
    · exact absurd h this
    · exact .inl (.inr h)
    · exact .inr h
/-- the first peer's Known has one more number, and a peer is appended, both not those of nodes -/
theorem garbage_eqv {M : List Pr} {m : Pr} {id : Int} {g : Pr} (hid : ∀ x ∈ N, x.id ≠ id) (hg : g.id = id) {x : Nd} (hx : x ∈ N) :
    EqvP N (peerN (m :: M) x.id) (peerN (({ m with known := m.known ++ [id] } :: M) ++ [g]) x.id) := by
  by_cases hm : m.id = x.id
  · have e1 : peerN (m :: M) x.id = m := by unfold peerN; simp [List.find?_cons, hm]
    have e2 : peerN (({ m with known := m.known ++ [id] } :: M) ++ [g]) x.id = { m with known := m.known ++ [id] } := by unfold peerN; simp [List.find?_cons, hm]
    rw [e1, e2]
    exact eqv_more hid m
  · have hgx : g.id ≠ x.id := by rw [hg]; exact (hid x hx).symm
    have e1 : peerN (m :: M) x.id = peerN M x.id := by unfold peerN; simp [List.find?_cons, hm]
    have e2 : peerN (({ m with known := m.known ++ [id] } :: M) ++ [g]) x.id = peerN M x.id := by
      unfold peerN
      rw [List.cons_append, List.find?_cons, show (({ m with known := m.known ++ [id] } : Pr).id == x.id) = false by simpa using hm]
      rw [List.find?_append]
      cases M.find? (fun p => p.id == x.id) with
      | some q => rfl
      | none =>
        have h1 : [g].find? (fun p => p.id == x.id) = none := by simp [hgx]
        rw [h1]; rfl
    rw [e1, e2]
    exact eqv_refl _ _
end
end Go.Proofs.YtbnbjiddffihoaaDoor

/- The sanity check of chapter 16, and its chain. -/
namespace Go.Proofs.YtbnbjiddffihoaaDoor
open Go.RowKit

def twoN : List Nd := [⟨1, ⟨#[97]⟩, 0⟩, ⟨2, ⟨#[98]⟩, 0⟩]
def onePr : List Pr := [⟨2, 0, 0, [1], []⟩]
def sL1 : List Pr := roundN twoN onePr
def sL2 : List Pr := roundN twoN sL1
theorem sL1_is : sL1 = [⟨1, 0, 0, [2], []⟩, ⟨2, 1, 0, [1], []⟩] := by kernel_rfl
theorem sL2_at : (sL2.length, (sL2[0]?).map fun p => p.right) = (2, some 2) := by decide +kernel
theorem two_ex1 : exactLB twoN sL1 = false := by decide +kernel
theorem two_ex2 : exactLB twoN sL2 = true := by decide +kernel
theorem two_nor : (normalN twoN []).length = 2 := by decide +kernel
theorem twoW : ∀ x ∈ twoN, x.word < 4294967296 := by decide +kernel
theorem sL2_small : sL2.all (fun p => decide (p.known.length ≤ 10) && decide (p.near.length ≤ 10)) = true := by decide +kernel
theorem small_of {P : List Pr} (h : P.all (fun p => decide (p.known.length ≤ 10) && decide (p.near.length ≤ 10)) = true) : SmallP P := fun p hp => by
  have := List.all_eq_true.1 h p hp
  simp only [Bool.and_eq_true, decide_eq_true_eq] at this
  omega
theorem twoLit (w : World) : ∃ g v, g = w.heap.size ∧ v = w.alloc (.cells #[.int .i64 1, .string ⟨#[97]⟩, .int .u32 0, .int .i64 2, .string ⟨#[98]⟩, .int .u32 0] 52) ∧ Sl 3 encN v (some ⟨g, 0, none⟩) 2 twoN ∧ Ex w v :=
  ⟨_, _, rfl, rfl, Sl.lit twoN rfl rfl (fun _ => rfl) rfl, Ex.new _ _⟩
theorem oneLit (w : World) : ∃ g1 g2 v, g1 = w.heap.size ∧ g2 = w.heap.size + 1 ∧ v = (w.alloc (.cells #[.int .i64 1] 3)).alloc (.cells #[.int .i64 2, .slice (some ⟨g1, 0, none⟩) 1 1, .int .i64 0, .int .i64 0, .slice none 0 0] 41) ∧ PL v (some ⟨g2, 0, none⟩) 1 onePr ∧ Ex w v := by
  refine ⟨_, _, _, rfl, rfl, rfl, ⟨[((2, 0, 0), (some ⟨w.heap.size, 0, none⟩, 1, 1), (none, 0, 0))], ?_, rfl, fun j q p hq hp => ?_⟩, (Ex.new _ _).nx (Ex.new _ _)⟩
  · have := Sl.lit (enc := encQ) (sz := 5) (w := w.alloc (.cells #[.int .i64 1] 3)) (s := w.heap.size + 1) (cs := #[.int .i64 2, .slice (some ⟨w.heap.size, 0, none⟩) 1 1, .int .i64 0, .int .i64 0, .slice none 0 0]) (ty := 41) (n := 1) [((2, 0, 0), (some ⟨w.heap.size, 0, none⟩, 1, 1), (none, 0, 0))] (by simp) rfl encQ_len rfl
    exact this
  · rcases j with _ | j
    · simp only [List.getElem?_cons_zero, Option.some.injEq, onePr] at hq hp
      subst hq hp
      exact ⟨rfl, (Sl.lit [1] rfl rfl (fun _ => rfl) rfl : Sl 1 encI (w.alloc (.cells #[.int .i64 1] 3)) (some ⟨w.heap.size, 0, none⟩) 1 [1]).nx (Ex.new _ _), Sl.nil _ _ _ _⟩
    · simp at hq
set_option maxRecDepth 100000 in
set_option maxHeartbeats 8000000 in
theorem sane16_x (w : World) (hT : TabG w) : Calls Tryd.prog 32 #[] w fun e w' => e = .returned (.bool true) ∧ Ex w w' := by
  go_enter Tryd.func32, Tryd.ntmps32
  obtain ⟨g1, w1, hg1, hw1, S1, k⟩ := twoLit w
  have T := hT.nx k
  have Hg1 := Lib.hid hg1
  have Hw1 := Lib.hid hw1
  clear hT hg1 hw1
  go_upto_region 2 with fail
  rw [← Hw1.out, ← Hg1.out]
  clear Hw1 Hg1
  obtain ⟨g2, g3, w2, hg2, hg3, hw2, P1, kk⟩ := oneLit w1
  replace k := k.nx kk
  replace T := T.nx kk
  replace S1 := S1.nx kk
  subst hg2
  have Hg3 := Lib.hid hg3
  have Hw2 := Lib.hid hw2
  clear kk hg3 hw2
  go_wp2_with fail
  rw [← Hg3.out, ← Hw2.out]
  clear Hg3 Hw2
  (with_reducible refine (lround_p _ _ _ twoN _ _ _ onePr _ S1 (by omega) (by omega) (by unfold maxLen; omega) P1 (by omega) (small_of (by decide))).mono ?_)
  rintro e w3 ⟨v, qs, rfl, own, kk⟩
  replace k := k.nx kk
  replace T := T.nx kk
  replace S1 := S1.nx kk
  clear kk P1
  replace own : OwnPr w2.heap.size w3 v qs sL1 := own
  rw [sL1_is] at own
  obtain ⟨aL, cL, rfl, PL1, _, _, _⟩ := own.pl
  clear own
  simp only [List.length_cons, List.length_nil, Nat.zero_add, Nat.reduceAdd] at PL1 ⊢
  go_wp2_with fail
  (with_reducible refine (lround_p _ _ _ twoN _ _ _ _ _ S1 (by omega) (by omega) (by unfold maxLen; omega) PL1 (by omega) (small_of (by decide))).mono ?_)
  rintro e w4 ⟨v, qs, rfl, own, kk⟩
  replace k := k.nx kk
  replace T := T.nx kk
  replace S1 := S1.nx kk
  replace PL1 := PL1.nx kk
  clear kk
  rw [← sL1_is] at own
  replace own : OwnPr w3.heap.size w4 v qs sL2 := own
  obtain ⟨aM, cM, rfl, PL2, _, _, _⟩ := own.pl
  have h2 := sL2_at
  simp only [Prod.mk.injEq] at h2
  obtain ⟨h2l, h2r⟩ := h2
  rw [h2l] at PL2 ⊢
  clear own
  obtain ⟨x1, o1, b1, m1, d1, b4, m4, d4, y, rfl, hx1, hy, p0, p1, p2, p3, p4, s1, s4⟩ := PL1.rd (j := 0) (by omega)
  obtain ⟨x1', o1', b1', m1', d1', b4', m4', d4', y', he, hx1', hy', q0, q1, q2, q3, q4, s1', s4'⟩ := PL1.rd (j := 1) (by omega)
  cases he
  simp only [List.getElem?_cons_zero, List.getElem?_cons_succ, Option.some.injEq] at hy hy'
  subst hy hy'
  have hm1 : m1 = 1 := s1.len.symm
  subst hm1
  obtain ⟨x2, o2, b2, m2, d2, b5, m5, d5, z, rfl, hx2, hz, r0, r1, r2, r3, r4, t1, t4⟩ := PL2.rd (j := 0) (by omega)
  have hzr : z.right = 2 := by rw [hz] at h2r; simpa using h2r
  rw [hzr] at r3
  simp only [Nat.zero_mul, Nat.add_zero, Nat.one_mul] at p1 p3 q2 r3
  have S1 := Lib.hid S1
  have PL1 := Lib.hid PL1
  have PL2 := Lib.hid PL2
  have T := Lib.hid T
  have K := Lib.hid k
  clear p0 p2 p4 q0 q1 q3 q4 r0 r1 r2 r4 s1 s4 s1' s4' t1 t4 hz hzr h2l h2r k
  go_wp2_with fail
  (with_reducible refine (exact16_p _ _ _ twoN _ _ _ _ _ S1.out (by omega) (by omega) (by unfold maxLen; omega) twoW T.out PL1.out (by omega) (small_of (by decide))).mono ?_)
  rintro e w5 ⟨rfl, kk⟩
  rw [← sL1_is, two_ex1]
  replace S1 := Lib.hid (S1.out.nx kk)
  replace PL2 := Lib.hid (PL2.out.nx kk)
  replace T := Lib.hid (T.out.nx kk)
  replace K := Lib.hid (K.out.nx kk)
  clear kk p1 p3 q2 r3 PL1
  go_wp2_with fail
  (with_reducible refine (exact16_p _ _ _ twoN _ _ _ sL2 _ S1.out (by omega) (by omega) (by unfold maxLen; omega) twoW T.out PL2.out (by omega) (small_of sL2_small)).mono ?_)
  rintro e w6 ⟨rfl, kk⟩
  rw [two_ex2]
  replace S1 := Lib.hid (S1.out.nx kk)
  replace K := Lib.hid (K.out.nx kk)
  clear kk PL2
  go_wp2_with fail
  (with_reducible refine (rounds16_p 2 _).mono ?_)
  rintro e w7 ⟨rfl, rfl⟩
  go_wp2_with fail
  (with_reducible refine (normal_p _ _ _ twoN none 0 0 [] _ S1.out (by omega) (by omega) (by unfold maxLen; omega) (PL.nil _ _) (by omega) (small_of (by decide))).mono ?_)
  rintro e w8 ⟨v, qs, rfl, own, kk⟩
  obtain ⟨aN, cN, rfl, _⟩ := own.pl
  rw [two_nor]
  have KE := Lib.hid (K.out.nx kk)
  clear own kk
  go_wp2_with fail
  go_ret
  exact ⟨rfl, KE.out⟩
end Go.Proofs.YtbnbjiddffihoaaDoor
