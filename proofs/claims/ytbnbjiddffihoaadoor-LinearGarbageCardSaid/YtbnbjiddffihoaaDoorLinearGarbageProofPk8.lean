/- Texts for the statement LinearGarbageProof, part 8 of 9: Jon, CoR, TJo, TSome, L16, SmI, Sane14, RdGa, RdSu, RdWi, Same14, L16G, Laid4. -/
import Derived.Laws.OwnMore
import Derived.BigQuiet
import Derived.Test.YtbnbjiddffihoaaDoorTie
import Derived.Test.YtbnbjiddffihoaaDoorCards
import Derived.Lib.LaidTab
import Derived.Lib.LaidU8
import Derived.LaidMore
import Derived.Stop.Joined
import Derived.SevenTiedAt
import Derived.Test.YtbnbjiddffihoaaDoorLinearGarbageProofPk1
import Derived.Test.YtbnbjiddffihoaaDoorLinearGarbageProofPk3
import Derived.Test.YtbnbjiddffihoaaDoorLinearGarbageProofPk4
import Derived.Test.YtbnbjiddffihoaaDoorLinearGarbageProofPk5
import Derived.Test.YtbnbjiddffihoaaDoorLinearGarbageProofPk6
import Derived.Test.YtbnbjiddffihoaaDoorLinearGarbageProofPk7

/- Joined of the reference of chapter 7: how many components it gives. -/
namespace Go.Proofs.YtbnbjiddffihoaaDoor
open Go.RowKit

def IsjRel (c : List Nd) (n : Nat) (w : World) (o i : Value) (wr : World) : Prop :=
  ∃ k : Nat, k ≤ n ∧ i = .int .i64 k ∧ OwnL 1 encI 3 w.heap.size wr o ((c.take k).map Nd.id) ∧ Ex w wr
set_option maxRecDepth 100000 in
set_option maxHeartbeats 2000000 in
theorem idsj_r (a : Option Addr) (n c : Nat) (l : List Nd) (w : World) (hs : Sl 3 encN w a n l) (hn : n ≤ 100000) :
    Calls Tryd.prog 100 #[.slice a n c] w (OiPost (l.map Nd.id) w) := by
  have HL := Lib.hid hs.len
  have hll := hs.len
  have HS := Lib.hid hs
  clear hs
  go_enter Tryd.func100, Tryd.ntmps100
  go_wp2_with fail
  go_loopw [3, 4] (fun o i wr => IsjRel l n w o i wr) (fun _ i _ => n - (intOf i).toNat)
  case atStart => exact ⟨0, by omega, rfl, OwnL.nil _ _ _ _ _, Ex.refl _⟩
  case round =>
    obtain ⟨j, hj, rfl, own, ki⟩ := hrel
    obtain ⟨wi, rfl⟩ : ∃ wi : World, wi = wr := ⟨_, rfl⟩
    by_cases hjm : j < n
    · obtain ⟨x3, o3, y, rfl, hx3, hy, hc3⟩ := (HS.out.nx ki).at hjm
      have e0 : wi.cell? ⟨x3, o3 + j * 3, none⟩ = some (.int .i64 y.id) := hc3 0 _ rfl
      have SN : Hid ((l.take (j + 1)).map Nd.id = (l.take j).map Nd.id ++ [y.id]) := Lib.hid (by rw [take_snocN l j y hy, List.map_append]; rfl)
      have hrl : ((l.take j).map Nd.id).length = j := by rw [List.length_map, List.length_take]; omega
      clear hy hc3
      have zb := ki.size
      generalize (l.take j).map Nd.id = row at own SN hrl
      generalize y.id = yi at SN e0
      go_wp2_with (at_builtin; (refine wpList_append_lit (enc := encI) wi rfl _ _ 22 rfl w.heap.size 3 (.int .i64 0) 1 8 Tryd.underlying22 Tryd.infoI6 rfl (by omega) (by omega) _ _ own rfl (yi : Int) _ rfl rfl (by simp [encI, Value.oneCell']) _ (by simp) rfl (by omega) (by omega) _ ?_); intro v5 w6 own6 ch0 ch1 hz6)
      refine ⟨⟨j + 1, by omega, by go_num, by rw [SN.out]; exact own6, Chg.trans ki ch1⟩, by simp [intOf]; omega⟩
    · obtain rfl : j = n := by omega
      rw [List.take_of_length_le (by omega)] at own
      have own := Lib.hid own
      clear hj hjm
      go_wp2_with fail
      go_ret
      exact ⟨_, rfl, own.out, ki⟩

/-! ### rows of values, of labels -/
def encV (v : Value) : List Value := [v]
def encNt (v : Nat) : List Value := [.int .i64 v]
theorem flatV (l : List Value) : l.flatMap encV = l := by
  induction l with
  | nil => rfl
  | cons x l ih => rw [List.flatMap_cons, ih]; rfl
theorem flatNt (l : List Nat) : l.flatMap encNt = l.map fun v : Nat => Value.int .i64 (v : Int) := by
  induction l with
  | nil => rfl
  | cons x l ih => rw [List.flatMap_cons, ih]; rfl
theorem labs_of {e base n : Nat} {w : World} {v : Value} {L : List Value} (h : OwnL 1 encV e base w v L) (hl : L.length = n) (hv : ∀ i, i < n → L[i]? = some (.int .i64 i)) : OwnL 1 encNt e base w v (List.range n) := by
  have : L = (List.range n).map fun i : Nat => Value.int .i64 (i : Int) := by
    refine List.ext_getElem? fun i => ?_
    by_cases hi : i < n
    · rw [hv i hi, List.getElem?_map, List.getElem?_range hi]; rfl
    · rw [List.getElem?_eq_none (by omega), List.getElem?_eq_none (by simp; omega)]
  unfold OwnL at h ⊢
  rw [flatV] at h
  rw [flatNt, List.length_range, ← this, ← hl]
  exact h
theorem make_row (w : World) (n : Nat) (hn : n ≤ 1000) : ∃ w' L, (Instr.makeSlice 22 (.int .i64 n) (.int .i64 n)).run Tryd.prog w = .ok (.slice (some ⟨w.heap.size, 0, none⟩) n n) w' ∧ OwnL 1 encV 3 w.heap.size w' (.slice (some ⟨w.heap.size, 0, none⟩) n n) L ∧ L.length = n ∧ Ex w w' := by
  obtain ⟨i, hi, hz0, hz1, hz2⟩ := info_parts Tryd.infoI6
  obtain ⟨w', hrun, hr, hg⟩ := run_makeSlice_full (P := Tryd.prog) (w := w) w.heap.size 22 3 i (.int .i64 0) 1 Tryd.underlying22 hi hz0 hz1 .i64 .i64 n (by omega) (by rw [hz2]; omega) (by unfold maxLen; omega) (Nat.le_refl _)
  have hl : (madeCells (Value.int .i64 0).cells (n * 1)).toList.length = n := by simp [size_madeCells]
  refine ⟨w', _, hrun, ?_, hl, ⟨hg.os, hg.tape, hg.output, hg.size, fun k hk => hg.block k hk (by simp)⟩⟩
  unfold OwnL
  rw [flatV, hl]
  exact hr
def JPost (m : Nat) (w : World) (e : Ending) (w' : World) : Prop := ∃ a c, e = .returned (.slice a m c) ∧ Ex w w'
abbrev LabRow (base g n : Nat) (w : World) (L : List Nat) : Prop := OwnL 1 encNt 3 base w (.slice (some ⟨g, 0, none⟩) n n) L
def JaRel (n g : Nat) (w : World) (i : Value) (wr : World) : Prop :=
  ∃ (k : Nat) (L : List Value), k ≤ n ∧ i = .int .i64 k ∧ OwnL 1 encV 3 w.heap.size wr (.slice (some ⟨g, 0, none⟩) n n) L ∧ L.length = n ∧ (∀ i, i < k → L[i]? = some (.int .i64 i)) ∧ Ex w wr
def JbRel (ids : List Int) (E : List (Int × Int)) (g n : Nat) (w : World) (i : Value) (wr : World) : Prop :=
  ∃ t : Nat, t ≤ n ∧ i = .int .i64 t ∧ LabRow w.heap.size g n wr (Lab.labsL ids E t) ∧ Ex w wr
def JcRel (ids : List Int) (E : List (Int × Int)) (lab : List Nat) (g n : Nat) (w : World) (i : Value) (wr : World) : Prop :=
  ∃ j : Nat, j ≤ E.length ∧ i = .int .i64 j ∧ LabRow w.heap.size g n wr ((E.take j).foldl (Lab.stepL ids) lab) ∧ Ex w wr
theorem lab_cell {base g n i : Nat} {w : World} {cur : List Nat} (h : LabRow base g n w cur) (hi : i < cur.length) : w.cell? ⟨g, i, none⟩ = some (.int .i64 (cur.getD i 0 : Nat)) ∧ w.frozen? ⟨g, i, none⟩ = false := by
  obtain ⟨s1, s2, _⟩ := own_set1 (sz := 1) (enc := encNt) (fun _ => rfl) h (List.getElem?_eq_getElem hi) (c := 0) (by omega)
  simp only [Nat.mul_one, Nat.add_zero] at s1 s2
  refine ⟨?_, s2⟩
  rw [s1, List.getD_eq_getElem?_getD, List.getElem?_eq_getElem hi]
  rfl
theorem lab_set {base g n i : Nat} {w : World} {cur : List Nat} (h : LabRow base g n w cur) (hi : i < cur.length) (m : Nat) : LabRow base g n (w.setCell ⟨g, i, none⟩ (.int .i64 (m : Nat))) (cur.set i m) := by
  obtain ⟨_, _, s3⟩ := own_set1 (sz := 1) (enc := encNt) (fun _ => rfl) h (List.getElem?_eq_getElem hi) (c := 0) (by omega)
  simp only [Nat.mul_one, Nat.add_zero] at s3
  exact s3 m _ rfl
theorem fold_len (ids : List Int) (F : List (Int × Int)) (lab : List Nat) : (F.foldl (Lab.stepL ids) lab).length = lab.length := by
  induction F generalizing lab with
  | nil => rfl
  | cons q F ih =>
    rw [List.foldl_cons, ih]
    unfold Lab.stepL
    split
    · exact Lab.join_len _ _ _
    · rfl
theorem labs_len (ids : List Int) (E : List (Int × Int)) (t : Nat) : (Lab.labsL ids E t).length = ids.length := by
  induction t with
  | zero => simp [Lab.labsL]
  | succ t ih => exact (fold_len ids E _).trans ih
theorem idxL_some {l : List Int} {v : Int} {i : Nat} (h : l.findIdx? (· == v) = some i) : idxL l v = i ∧ i < l.length := by
  unfold idxL
  rw [h]
  exact ⟨rfl, (List.findIdx?_eq_some_iff_getElem.1 h).1⟩
theorem idxL_none {l : List Int} {v : Int} (h : l.findIdx? (· == v) = none) : idxL l v = -1 := by unfold idxL; rw [h]
def encHd (h : Hdr) : List Value := [h.val]
theorem Tryd.infoSI : (Tryd.prog.info? 22).map (fun i => (i.zero, i.size, i.bytes)) = some (some (.slice none 0 0), 1, 24) := by kernel_rfl
def cntL (lab : List Nat) (i : Nat) : Nat := ((List.range i).filter fun k => lab.getD k 0 == k).length
theorem cntL_succ (lab : List Nat) (i : Nat) : cntL lab (i + 1) = cntL lab i + if lab.getD i 0 = i then 1 else 0 := by
  unfold cntL
  rw [List.range_succ, List.filter_append, List.length_append]
  by_cases h : lab.getD i 0 = i
  · have hb : (lab.getD i 0 == i) = true := by rw [beq_iff_eq]; exact h
    rw [if_pos h]
    simp only [List.filter_cons, List.filter_nil, hb]
    rfl
  · have hb : (lab.getD i 0 == i) = false := by rw [beq_eq_false_iff_ne]; exact h
    rw [if_neg h]
    simp only [List.filter_cons, List.filter_nil, hb]
    rfl
theorem cntL_le (lab : List Nat) (i : Nat) : cntL lab i ≤ i := by
  unfold cntL
  have := List.length_filter_le (fun k => lab.getD k 0 == k) (List.range i)
  simpa using this
def JdRel (lab : List Nat) (n : Nat) (w : World) (o i : Value) (wr : World) : Prop :=
  ∃ (k : Nat) (qs : List Hdr), k ≤ n ∧ i = .int .i64 k ∧ OwnL 1 encHd 22 w.heap.size wr o qs ∧ qs.length = cntL lab k ∧ Ex w wr
def JeRel (b : Prop) (k n : Nat) (w : World) (o i : Value) (wr : World) : Prop :=
  ∃ (j : Nat) (l : List Int), k ≤ j ∧ j ≤ n ∧ i = .int .i64 j ∧ OwnL 1 encI 3 w.heap.size wr o l ∧ l.length ≤ j ∧ (b → k < j → l ≠ []) ∧ (¬ b → l = []) ∧ Ex w wr
set_option maxRecDepth 100000 in
set_option maxHeartbeats 16000000 in
theorem joined_r (a : Option Addr) (n c : Nat) (N : List Nd) (a2 : Option Addr) (n2 c2 : Nat) (E : List (Int × Int)) (w : World) (h : Sl 3 encN w a n N) (hn : n ≤ 1000) (h2 : Sl 2 encP2 w a2 n2 E) (hn2 : n2 ≤ 1000000) :
    Calls Tryd.prog 62 #[.slice a n c, .slice a2 n2 c2] w (JPost (Lab.partsL (N.map Nd.id) E) w) := by
  have HL := Lib.hid h.len
  have HL2 := Lib.hid h2.len
  have EX := Ex.refl w
  go_enter Tryd.func62, Tryd.ntmps62
  go_wp2_with fail
  (with_reducible refine (idsj_r _ _ _ N _ h (by omega)).mono ?_)
  rintro e w1 ⟨v1, rfl, own, kk⟩
  replace h2 := h2.nx kk
  replace EX := EX.nx kk
  clear kk
  obtain ⟨aI, cI, rfl, IDS, _, _, _⟩ := own.slf (fun _ => rfl)
  have hIl : (N.map Nd.id).length = n := by rw [List.length_map]; exact HL.out
  rw [hIl] at IDS ⊢
  generalize hids : N.map Nd.id = ids at IDS hIl ⊢
  have HI := Lib.hid hids
  clear hids
  have IL := Lib.hid hIl
  have IDS := Lib.hid IDS.sl
  have H2 := Lib.hid h2
  have EXH := Lib.hid EX
  clear own h h2 EX hIl
  obtain ⟨w2, L0, hmk, row, hrl, k2⟩ := make_row w1 n hn
  obtain ⟨g, hg⟩ : ∃ g, g = w1.heap.size := ⟨_, rfl⟩
  rw [← hg] at hmk row
  have HG := Lib.hid hg
  have zg : w1.heap.size ≤ g := by omega
  have ROW := Lib.hid row
  have K2 := Lib.hid k2
  have HR := Lib.hid hrl
  clear hg row k2 hrl
  go_wp2_with fail
  clear hmk
  go_loopw [7] (fun i wr => JaRel n g w1 i wr) (fun i _ => n - (intOf i).toNat)
  case atStart => exact ⟨0, L0, Nat.zero_le _, rfl, by rw [HG.out]; rw [HG.out] at ROW; exact ROW.out, HR.out, fun i hi => absurd hi (Nat.not_lt_zero _), K2.out⟩
  case round =>
    clear ROW K2 HR
    obtain ⟨k, L, hk, rfl, row, hL, hLv, kw⟩ := hrel
    obtain ⟨wo, rfl⟩ : ∃ wo : World, wo = wr := ⟨_, rfl⟩
    have HLL := Lib.hid hL
    have HLV := Lib.hid hLv
    have KW := Lib.hid kw
    clear hL hLv kw
    by_cases hlt : k < n
    · have hy : L[k]? = some (L[k]'(by have := HLL.out; omega)) := List.getElem?_eq_getElem _
      obtain ⟨s1, s2, s3⟩ := own_set1 (sz := 1) (enc := encV) (fun _ => rfl) row hy (c := 0) (by omega)
      simp only [Nat.mul_one, Nat.add_zero] at s1 s2 s3
      generalize L[k]'(by have := HLL.out; omega) = y at hy s1 s3
      have s1 : wo.cell? ⟨g, k, none⟩ = some y := s1
      have RR := Lib.hid (show JaRel n g w1 (.int .i64 ((k : Int) + 1)) (wo.setCell ⟨g, k, none⟩ (.int .i64 k)) from ⟨k + 1, L.set k (.int .i64 k), by omega, by go_num, s3 _ _ rfl, by rw [List.length_set]; exact HLL.out, fun i hi => by
        by_cases hik : i = k
        · subst hik
          exact List.getElem?_set_self (by have := HLL.out; omega)
        · rw [List.getElem?_set_ne (fun h => hik h.symm)]
          exact HLV.out i (by omega), KW.out.setNew _ zg⟩)
      clear row s3 hy
      go_wp2_with fail
      exact ⟨RR.out, by simp [intOf]; omega⟩
    · obtain rfl : n = k := by omega
      have LR := Lib.hid (labs_of row HLL.out (fun i hi => HLV.out i hi))
      clear row hk hlt HLV HLL
      go_wp2_with fail
      go_loopw [8] (fun i wr => JbRel ids E g n w1 i wr) (fun i _ => n - (intOf i).toNat)
      case atStart => exact ⟨0, Nat.zero_le _, rfl, by show LabRow _ _ _ _ (List.range ids.length); rw [IL.out]; exact LR.out, KW.out⟩
      case round =>
        clear LR KW
        obtain ⟨t, ht, rfl, row, kw⟩ := hrel
        obtain ⟨wt, rfl⟩ : ∃ wt : World, wt = wr := ⟨_, rfl⟩
        have KW := Lib.hid kw
        clear kw
        by_cases htt : t < n
        · have LL := Lib.hid ((labs_len ids E t).trans IL.out)
          have LS : Hid (Lab.labsL ids E (t + 1) = E.foldl (Lab.stepL ids) (Lab.labsL ids E t)) := Lib.hid rfl
          generalize Lab.labsL ids E t = lab at row LL LS
          have ROW := Lib.hid row
          clear row
          go_wp2_with fail
          go_loopw [9] (fun i wr => JcRel ids E lab g n w1 i wr) (fun i _ => E.length - (intOf i).toNat)
          case atStart => exact ⟨0, Nat.zero_le _, rfl, ROW.out, KW.out⟩
          case round =>
            clear ROW KW
            obtain ⟨j, hj, rfl, row, kv⟩ := hrel
            obtain ⟨wp, rfl⟩ : ∃ wp : World, wp = wr := ⟨_, rfl⟩
            have KV := Lib.hid kv
            have ROW := Lib.hid row
            clear kv row
            by_cases hjl : j < n2
            · obtain ⟨xe, oe, q, rfl, hxe, hq, hce⟩ := (H2.out.nx KV.out).at hjl
              have f0 : wp.cell? ⟨xe, oe + j * 2, none⟩ = some (.int .i64 q.1) := by simpa using hce 0 _ rfl
              have f1 : wp.cell? ⟨xe, oe + j * 2 + 1, none⟩ = some (.int .i64 q.2) := by simpa using hce 1 _ rfl
              have F0 := Lib.hid (fun wq (k : Ex wp wq) => Chg.cellv k f0 hxe)
              have F1 := Lib.hid (fun wq (k : Ex wp wq) => Chg.cellv k f1 hxe)
              have SN : Hid ((E.take (j + 1)).foldl (Lab.stepL ids) lab = Lab.stepL ids ((E.take j).foldl (Lab.stepL ids) lab) q) := Lib.hid (by
                rw [List.take_add_one, hq, List.foldl_append]; rfl)
              have CL := Lib.hid ((fold_len ids (E.take j) lab).trans LL.out)
              have hjE : j + 1 ≤ E.length := by have := HL2.out; omega
              generalize (E.take j).foldl (Lab.stepL ids) lab = cur at ROW SN CL
              clear hce hq f0 f1 hxe
              go_upto_region 13 with fail
              refine wp_region_held_drew (S := Ex wp) (by kernel_rfl) ((Ex.refl wp).drew) (fun hHeld => ?_)
              obtain ⟨wd, hwdx⟩ : ∃ wd : World, wd = World.drew wp := ⟨_, rfl⟩
              rw [← hwdx] at hHeld ⊢
              have hDrew : Ex wp wd := by rw [hwdx]; exact (Ex.refl wp).drew
              clear hwdx
              refine wpAnyH_take (i := 0) (oi := ⟨some 44, .move (.tmp 5), 22, "ref.go:92", #[], none⟩) (v := ?_) rfl (by kernel_rfl) (by kernel_rfl) (by kernel_rfl) (fun _ _ _ h => h) (Or.inl ⟨by rfl, ?hyr1x0q5⟩) (by assumption) ?restr1x0q5
              case hyr1x0q5 => intro wq hSw; (go_simp); (try with_reducible rfl)
              try simp only [Act.put, List.setIfInBounds_toArray, List.set_cons_zero, List.set_cons_succ]
              refine wpAnyH_take (i := 1) (oi := ⟨some 45, .move (.tmp 1), 86, "ref.go:92", #[], none⟩) (v := ?_) rfl (by kernel_rfl) (by kernel_rfl) (by kernel_rfl) (fun _ _ _ h => h) (Or.inl ⟨by rfl, ?hyr1x1q8⟩) (by assumption) ?restr1x1q8
              case hyr1x1q8 => intro wq hSw; (go_simp); (try with_reducible rfl)
              try simp only [Act.put, List.setIfInBounds_toArray, List.set_cons_zero, List.set_cons_succ]
              refine wpAnyH_take (i := 2) (oi := ⟨some 46, .move (.tmp 9), 3, "ref.go:92", #[], none⟩) (v := ?_) rfl (by kernel_rfl) (by kernel_rfl) (by kernel_rfl) (fun _ _ _ h => h) (Or.inl ⟨by rfl, ?hyr1x2q11⟩) (by assumption) ?restr1x2q11
              case hyr1x2q11 => intro wq hSw; (go_simp); (try with_reducible rfl)
              try simp only [Act.put, List.setIfInBounds_toArray, List.set_cons_zero, List.set_cons_succ]
              refine wpAnyH_take (i := 3) (oi := ⟨some 47, .indexAddr 86 (.tmp 45) (.tmp 46), 0, "ref.go:92", #[⟨1, .data⟩, ⟨2, .data⟩], none⟩) (v := ?_) rfl (by kernel_rfl) (by kernel_rfl) (by kernel_rfl) (fun _ _ _ h => h) (Or.inl ⟨by rfl, ?hyr1x3q14⟩) (by assumption) ?restr1x3q14
              case hyr1x3q14 => intro wq hSw; (go_simp); (try with_reducible rfl)
              try simp only [Act.put, List.setIfInBounds_toArray, List.set_cons_zero, List.set_cons_succ]
              refine wpAnyH_take (i := 4) (oi := ⟨some 48, .indexAddr 127 (.tmp 47) (.const (.int .i64 0)), 0, "ref.go:92", #[⟨3, .data⟩], none⟩) (v := ?_) rfl (by kernel_rfl) (by kernel_rfl) (by kernel_rfl) (fun _ _ _ h => h) (Or.inl ⟨by rfl, ?hyr1x4q17⟩) (by assumption) ?restr1x4q17
              case hyr1x4q17 => intro wq hSw; (go_simp); (try with_reducible rfl)
              try simp only [Act.put, List.setIfInBounds_toArray, List.set_cons_zero, List.set_cons_succ]
              refine wpAnyH_take (i := 5) (oi := ⟨some 49, .load 3 (.tmp 48), 3, "ref.go:92", #[⟨4, .data⟩], none⟩) (v := ?_) rfl (by kernel_rfl) (by kernel_rfl) (by kernel_rfl) (fun _ _ _ h => h) (Or.inl ⟨by rfl, ?hyr1x5q20⟩) (by assumption) ?restr1x5q20
              case hyr1x5q20 => intro wq hSw; (have cq := F0.out wq hSw; go_simp); (try with_reducible rfl)
              try simp only [Act.put, List.setIfInBounds_toArray, List.set_cons_zero, List.set_cons_succ]
              refine wpAnyH_take (i := 7) (oi := ⟨some 51, .move (.tmp 5), 22, "ref.go:92", #[], none⟩) (v := ?_) rfl (by kernel_rfl) (by kernel_rfl) (by kernel_rfl) (fun _ _ _ h => h) (Or.inl ⟨by rfl, ?hyr1x7q23⟩) (by assumption) ?restr1x7q23
              case hyr1x7q23 => intro wq hSw; (go_simp); (try with_reducible rfl)
              try simp only [Act.put, List.setIfInBounds_toArray, List.set_cons_zero, List.set_cons_succ]
              refine wpAnyH_take (i := 8) (oi := ⟨some 52, .move (.tmp 1), 86, "ref.go:92", #[], none⟩) (v := ?_) rfl (by kernel_rfl) (by kernel_rfl) (by kernel_rfl) (fun _ _ _ h => h) (Or.inl ⟨by rfl, ?hyr1x8q26⟩) (by assumption) ?restr1x8q26
              case hyr1x8q26 => intro wq hSw; (go_simp); (try with_reducible rfl)
              try simp only [Act.put, List.setIfInBounds_toArray, List.set_cons_zero, List.set_cons_succ]
              refine wpAnyH_take (i := 9) (oi := ⟨some 53, .move (.tmp 9), 3, "ref.go:92", #[], none⟩) (v := ?_) rfl (by kernel_rfl) (by kernel_rfl) (by kernel_rfl) (fun _ _ _ h => h) (Or.inl ⟨by rfl, ?hyr1x9q29⟩) (by assumption) ?restr1x9q29
              case hyr1x9q29 => intro wq hSw; (go_simp); (try with_reducible rfl)
              try simp only [Act.put, List.setIfInBounds_toArray, List.set_cons_zero, List.set_cons_succ]
              refine wpAnyH_take (i := 10) (oi := ⟨some 54, .indexAddr 86 (.tmp 52) (.tmp 53), 0, "ref.go:92", #[⟨8, .data⟩, ⟨9, .data⟩], none⟩) (v := ?_) rfl (by kernel_rfl) (by kernel_rfl) (by kernel_rfl) (fun _ _ _ h => h) (Or.inl ⟨by rfl, ?hyr1x10q32⟩) (by assumption) ?restr1x10q32
              case hyr1x10q32 => intro wq hSw; (go_simp); (try with_reducible rfl)
              try simp only [Act.put, List.setIfInBounds_toArray, List.set_cons_zero, List.set_cons_succ]
              refine wpAnyH_take (i := 11) (oi := ⟨some 55, .indexAddr 127 (.tmp 54) (.const (.int .i64 1)), 0, "ref.go:92", #[⟨10, .data⟩], none⟩) (v := ?_) rfl (by kernel_rfl) (by kernel_rfl) (by kernel_rfl) (fun _ _ _ h => h) (Or.inl ⟨by rfl, ?hyr1x11q35⟩) (by assumption) ?restr1x11q35
              case hyr1x11q35 => intro wq hSw; (go_simp); (try with_reducible rfl)
              try simp only [Act.put, List.setIfInBounds_toArray, List.set_cons_zero, List.set_cons_succ]
              refine wpAnyH_take (i := 12) (oi := ⟨some 56, .load 3 (.tmp 55), 3, "ref.go:92", #[⟨11, .data⟩], none⟩) (v := ?_) rfl (by kernel_rfl) (by kernel_rfl) (by kernel_rfl) (fun _ _ _ h => h) (Or.inl ⟨by rfl, ?hyr1x12q38⟩) (by assumption) ?restr1x12q38
              case hyr1x12q38 => intro wq hSw; (have cq := F1.out wq hSw; go_simp); (try with_reducible rfl)
              try simp only [Act.put, List.setIfInBounds_toArray, List.set_cons_zero, List.set_cons_succ]
              refine wpAnyH_ready (rs := [6]) (by kernel_rfl) (by simp) ?_
              refine AllReadyH.cons (o := ⟨some 50, .call { callee := .value (.func 101), args := #[.tmp 44, .tmp 49], argTypes := #[22, 3] }, 3, "ref.go:92", #[⟨0, .data⟩, ⟨5, .data⟩], none⟩) rfl (fun K hK => ?_) AllReadyH.nil
              go_simp
              (with_reducible refine (index7_r _ _ _ ids q.1 _ (IDS.out.nx (KV.out.nx hHeld)) (by omega)).mono ?_)
              rintro e wb ⟨rfl, kk⟩
              replace hHeld := hHeld.nx kk
              clear kk
              refine hK.out _ _ (hHeld) (fun hHeld => ?_)
              clear hK K
              try simp only [Act.put, List.setIfInBounds_toArray, List.set_cons_zero, List.set_cons_succ]
              refine wpAnyH_ready (rs := [13]) (by kernel_rfl) (by simp) ?_
              refine AllReadyH.cons (o := ⟨some 57, .call { callee := .value (.func 101), args := #[.tmp 51, .tmp 56], argTypes := #[22, 3] }, 3, "ref.go:92", #[⟨7, .data⟩, ⟨12, .data⟩, ⟨6, .chain⟩], none⟩) rfl (fun K hK => ?_) AllReadyH.nil
              go_simp
              (with_reducible refine (index7_r _ _ _ ids q.2 _ (IDS.out.nx (KV.out.nx hHeld)) (by omega)).mono ?_)
              rintro e wc ⟨rfl, kk⟩
              replace hHeld := hHeld.nx kk
              clear kk
              refine hK.out _ _ (hHeld) (fun hHeld => ?_)
              clear hK K
              try simp only [Act.put, List.setIfInBounds_toArray, List.set_cons_zero, List.set_cons_succ]
              refine wpAnyH_take (i := 14) (oi := ⟨some 10, .assign (.tmp 50), 3, "ref.go:92", #[⟨6, .data⟩, ⟨13, .chain⟩, ⟨0, .phase⟩, ⟨1, .phase⟩, ⟨2, .phase⟩, ⟨3, .phase⟩, ⟨4, .phase⟩, ⟨5, .phase⟩, ⟨6, .phase⟩, { on := 7, ground := Ground.textOnly Departure.lateStores }, { on := 8, ground := Ground.textOnly Departure.lateStores }, { on := 9, ground := Ground.textOnly Departure.lateStores }, { on := 10, ground := Ground.textOnly Departure.lateStores }, { on := 11, ground := Ground.textOnly Departure.lateStores }, { on := 12, ground := Ground.textOnly Departure.lateStores }, { on := 13, ground := Ground.textOnly Departure.lateStoresUnsure }], none⟩) (v := ?_) rfl (by kernel_rfl) (by kernel_rfl) (by kernel_rfl) (fun _ _ _ h => h) (Or.inl ⟨by rfl, ?hyr1x14q61⟩) (by assumption) ?restr1x14q61
              case hyr1x14q61 => intro wq hSw; (go_simp); (try with_reducible rfl)
              try simp only [Act.put, List.setIfInBounds_toArray, List.set_cons_zero, List.set_cons_succ]
              refine wpAnyH_take (i := 15) (oi := ⟨some 11, .assign (.tmp 57), 3, "ref.go:92", #[⟨13, .data⟩, ⟨14, .chain⟩, ⟨0, .phase⟩, ⟨1, .phase⟩, ⟨2, .phase⟩, ⟨3, .phase⟩, ⟨4, .phase⟩, ⟨5, .phase⟩, ⟨6, .phase⟩, ⟨7, .phase⟩, ⟨8, .phase⟩, ⟨9, .phase⟩, ⟨10, .phase⟩, ⟨11, .phase⟩, ⟨12, .phase⟩, ⟨13, .phase⟩, ⟨14, .phase⟩], none⟩) (v := ?_) rfl (by kernel_rfl) (by kernel_rfl) (by kernel_rfl) (fun _ _ _ h => h) (Or.inl ⟨by rfl, ?hyr1x15q64⟩) (by assumption) ?restr1x15q64
              case hyr1x15q64 => intro wq hSw; (go_simp); (try with_reducible rfl)
              try simp only [Act.put, List.setIfInBounds_toArray, List.set_cons_zero, List.set_cons_succ]
              refine wpAnyH_done (by kernel_rfl) ?_ _
              have KC := Lib.hid (KV.out.nx hHeld)
              have RC := Lib.hid (ROW.out.nx hHeld)
              clear hHeld hDrew ROW
              cases e1 : ids.findIdx? (· == q.1) with
              | none =>
                rw [idxL_none e1]
                have RR := Lib.hid (show JcRel ids E lab g n w1 (.int .i64 ((j : Int) + 1)) wc from ⟨j + 1, hjE, by go_num, by rw [SN.out, show Lab.stepL ids cur q = cur by unfold Lab.stepL; rw [e1]]; exact RC.out, KC.out⟩)
                clear e1
                go_wp2_with fail
                exact ⟨RR.out, by simp [intOf]; omega⟩
              | some i1 =>
                obtain ⟨x1, hi1⟩ := idxL_some e1
                rw [x1]
                have hi1n : i1 < n := by have := IL.out; omega
                cases e2 : ids.findIdx? (· == q.2) with
                | none =>
                  rw [idxL_none e2]
                  have RR := Lib.hid (show JcRel ids E lab g n w1 (.int .i64 ((j : Int) + 1)) wc from ⟨j + 1, hjE, by go_num, by rw [SN.out, show Lab.stepL ids cur q = cur by unfold Lab.stepL; rw [e1, e2]]; exact RC.out, KC.out⟩)
                  clear e1 e2 x1 hi1
                  go_wp2_with fail
                  exact ⟨RR.out, by simp [intOf]; omega⟩
                | some i2 =>
                  obtain ⟨x2, hi2⟩ := idxL_some e2
                  rw [x2]
                  have hi2n : i2 < n := by have := IL.out; omega
                  have ST : Hid (Lab.stepL ids cur q = Lab.joinL cur i1 i2) := Lib.hid (by unfold Lab.stepL; rw [e1, e2])
                  have hc1 : i1 < cur.length := by have := CL.out; omega
                  have hc2 : i2 < cur.length := by have := CL.out; omega
                  obtain ⟨p1, r1⟩ := lab_cell RC.out hc1
                  obtain ⟨p2, r2⟩ := lab_cell RC.out hc2
                  have JJ : Hid (Lab.joinL cur i1 i2 = (cur.set i1 (min (cur.getD i1 0) (cur.getD i2 0))).set i2 (min (cur.getD i1 0) (cur.getD i2 0))) := Lib.hid rfl
                  generalize cur.getD i1 0 = x at p1 JJ
                  generalize cur.getD i2 0 = y at p2 JJ
                  have hmin : min (x : Int) (y : Int) = ((min x y : Nat) : Int) := by omega
                  generalize min x y = m at hmin JJ
                  have RR := Lib.hid (fun d => show JcRel ids E lab g n w1 (.int .i64 ((j : Int) + 1)) (((wc.drewN d).setCell ⟨g, i1, none⟩ (.int .i64 (m : Nat))).setCell ⟨g, i2, none⟩ (.int .i64 (m : Nat))) from ⟨j + 1, hjE, by go_num, by
                    rw [SN.out, ST.out, JJ.out]
                    exact lab_set (lab_set (OwnL.nx RC.out ((Ex.refl wc).drewN d)) hc1 m) (by rw [List.length_set]; exact hc2) m, ((KC.out.drewN d).setNew _ zg).setNew _ zg⟩)
                  have q3 := fun d => lab_cell (lab_set (OwnL.nx RC.out ((Ex.refl wc).drewN d)) hc1 m) (i := i2) (by rw [List.length_set]; exact hc2)
                  have p3 := fun d => (q3 d).1
                  have r3 := fun d => (q3 d).2
                  clear e1 e2 x1 x2 hi1 hi2 hc1 hc2 ST SN RC JJ q3
                  go_wp2_with fail
                  go_quiet (fail)
                  go_wp2_with fail
                  exact ⟨RR.out _, by simp [intOf]; omega⟩
            · have hjE : j = E.length := by have := HL2.out; omega
              have RR := Lib.hid (show JbRel ids E g n w1 (.int .i64 ((t : Int) + 1)) wp from ⟨t + 1, by omega, by go_num, by rw [LS.out]; have h := ROW.out; rw [hjE, List.take_of_length_le (Nat.le_refl _)] at h; exact h, KV.out⟩)
              clear hj hjE ROW
              go_wp2_with fail
              exact ⟨RR.out, by simp [intOf]; omega⟩
        · obtain rfl : n = t := by omega
          have PT : Hid (Lab.partsL ids E = ((List.range n).filter fun i => (Lab.labsL ids E n).getD i 0 == i).length) := Lib.hid (by unfold Lab.partsL; rw [IL.out])
          have LL := Lib.hid ((labs_len ids E n).trans IL.out)
          generalize Lab.labsL ids E n = lab at row PT LL
          have ROW := Lib.hid row
          clear row ht htt
          go_wp2_with fail
          go_loopw [13, 14] (fun o i wr => JdRel lab n wt o i wr) (fun _ i _ => n - (intOf i).toNat)
          case atStart => exact ⟨0, [], Nat.zero_le _, rfl, OwnL.nil _ _ _ _ _, rfl, Ex.refl _⟩
          case round =>
            obtain ⟨k, qs, hk, rfl, own, hq, kv⟩ := hrel
            obtain ⟨wo, rfl⟩ : ∃ wo : World, wo = wr := ⟨_, rfl⟩
            have OWN := Lib.hid own
            have HQ := Lib.hid hq
            have KV := Lib.hid kv
            have hql : qs.length ≤ 1000 := by have := cntL_le lab k; omega
            have hzv := kv.size
            clear own hq kv
            by_cases hkn : k < n
            · have CS := Lib.hid (cntL_succ lab k)
              have hkl : k < lab.length := by have := LL.out; omega
              have RO := Lib.hid (OwnL.nx ROW.out KV.out)
              go_wp2_with fail
              go_loopw [15, 16] (fun o i wr => JeRel (lab.getD k 0 = k) k n wo o i wr) (fun _ i _ => n - (intOf i).toNat)
              case atStart => exact ⟨k, [], Nat.le_refl _, hk, rfl, OwnL.nil _ _ _ _ _, Nat.zero_le _, fun _ h => absurd h (Nat.lt_irrefl _), fun _ => rfl, Ex.refl _⟩
              case round =>
                obtain ⟨j, l, hkj, hjn, rfl, own, hll, hl1, hl2, kx⟩ := hrel
                obtain ⟨wp, rfl⟩ : ∃ wp : World, wp = wr := ⟨_, rfl⟩
                have RP := Lib.hid (OwnL.nx RO.out kx)
                have OWL := Lib.hid own
                have L1 := Lib.hid hl1
                have L2 := Lib.hid hl2
                have KX := Lib.hid kx
                have zx := kx.size
                obtain ⟨p1, r1⟩ := lab_cell RP.out hkl
                clear own hl1 hl2 kx
                by_cases hb : lab.getD k 0 = k
                · replace p1 : wp.cell? ⟨g, k, none⟩ = some (.int .i64 (k : Nat)) := by rw [hb] at p1; exact p1
                  by_cases hjl : j < n
                  · obtain ⟨p2, r2⟩ := lab_cell RP.out (i := j) (by have := LL.out; omega)
                    obtain ⟨xi, oi, v, rfl, hxi, hv, hci⟩ := (IDS.out.nx (KW.out.nx (KV.out.nx KX.out))).at hjl
                    have f0 : wp.cell? ⟨xi, oi + j, none⟩ = some (.int .i64 v) := by simpa using hci 0 _ rfl
                    clear hv hci
                    have B0 := Lib.hid hb
                    clear hb
                    by_cases hx : lab.getD j 0 = k
                    · replace p2 : wp.cell? ⟨g, j, none⟩ = some (.int .i64 (k : Nat)) := by rw [hx] at p2; exact p2
                      have own := OWL.out
                      clear hx
                      go_wp2_with (at_builtin; (refine wpList_append_lit (enc := encI) wp rfl _ _ 22 rfl wo.heap.size 3 (.int .i64 0) 1 8 Tryd.underlying22 Tryd.infoI6 rfl (by omega) (by omega) _ _ own rfl (v : Int) _ rfl rfl (by simp [encI, Value.oneCell']) _ (by simp) rfl (by omega) (by omega) _ ?_); intro v5 w6 own6 ch0 ch1 hz6)
                      refine ⟨⟨j + 1, l ++ [v], by omega, by omega, by go_num, own6, by simp; omega, fun _ _ => by simp, fun h => absurd B0.out h, Chg.trans KX.out ch1⟩, by simp [intOf]; omega⟩
                    · have d2 : (((lab.getD j 0 : Nat) : Int) == (k : Int)) = false := by rw [beq_eq_false_iff_ne]; omega
                      have hkj' : k < j := by
                        rcases Nat.lt_or_ge k j with h | h
                        · exact h
                        · obtain rfl : k = j := by omega
                          exact absurd B0.out hx
                      have RR := Lib.hid (show JeRel (lab.getD k 0 = k) k n wo u15 (.int .i64 ((j : Int) + 1)) wp from ⟨j + 1, l, by omega, by omega, by go_num, OWL.out, by omega, fun h _ => L1.out h hkj', L2.out, KX.out⟩)
                      generalize lab.getD j 0 = xj at p2 d2
                      clear hx
                      go_wp2_with fail
                      exact ⟨RR.out, by simp [intOf]; omega⟩
                  · obtain rfl : n = j := by omega
                    have hne := L1.out hb hkn
                    obtain ⟨A, C, rfl, _, _, _, _⟩ := OWL.out.slf (fun _ => rfl)
                    have hpos : 0 < l.length := List.length_pos_iff.2 hne
                    have ownO := OwnL.nx OWN.out KX.out
                    have CS1 : Hid (cntL lab (k + 1) = cntL lab k + 1) := Lib.hid (by rw [CS.out, if_pos hb])
                    clear hb hne
                    go_wp2_with (at_builtin; (refine wpList_append_lit (enc := encHd) wp rfl _ _ 84 rfl wt.heap.size 22 (.slice none 0 0) 1 24 Tryd.underlying84 Tryd.infoSI rfl (by omega) (by omega) _ _ ownO rfl ((A, l.length, C) : Hdr) _ rfl rfl (by simp [encHd, Hdr.val, Value.oneCell']) _ (by simp) rfl (by omega) (by omega) _ ?_); intro v5 w6 own6 ch0 ch1 hz6)
                    refine ⟨⟨k + 1, qs ++ [(A, l.length, C)], by omega, by go_num, own6, by rw [CS1.out, List.length_append, HQ.out]; rfl, Chg.trans (KV.out.nx KX.out) ch1⟩, by simp [intOf]; omega⟩
                · have hl0 := L2.out hb
                  have CS0 : Hid (cntL lab (k + 1) = cntL lab k) := Lib.hid (by rw [CS.out, if_neg hb]; rfl)
                  have RR := Lib.hid (show JdRel lab n wt u13 (.int .i64 ((k : Int) + 1)) wp from ⟨k + 1, qs, by omega, by go_num, OwnL.nx OWN.out KX.out, by rw [CS0.out]; exact HQ.out, KV.out.nx KX.out⟩)
                  have d1 : (((lab.getD k 0 : Nat) : Int) == (k : Int)) = false := by rw [beq_eq_false_iff_ne]; omega
                  subst hl0
                  obtain ⟨A, C, rfl, _, _, _, _⟩ := OWL.out.slf (fun _ => rfl)
                  generalize lab.getD k 0 = xk at p1 d1
                  clear hb
                  by_cases hjl : j < n
                  · go_wp2_with fail
                    exact ⟨RR.out, by simp [intOf]; omega⟩
                  · obtain rfl : n = j := by omega
                    go_wp2_with fail
                    exact ⟨RR.out, by simp [intOf]; omega⟩
            · obtain rfl : n = k := by omega
              obtain ⟨A, C, rfl, _, _, _, _⟩ := OWN.out.slf (fun _ => rfl)
              have KE := Lib.hid (EXH.out.nx (KW.out.nx KV.out))
              have HQ2 : Hid (Lab.partsL ids E = qs.length) := Lib.hid (by rw [PT.out, HQ.out]; rfl)
              clear hk hkn
              go_wp2_with fail
              go_ret
              exact ⟨_, _, by first | (rw [HQ2.out]; rfl) | (rw [HI.out, HQ2.out]; rfl), KE.out⟩
end Go.Proofs.YtbnbjiddffihoaaDoor

/- Connected of the reference of chapter 14. -/
namespace Go.Proofs.YtbnbjiddffihoaaDoor
open Go.RowKit

set_option maxRecDepth 100000 in
set_option maxHeartbeats 4000000 in
theorem connected_r (a : Option Addr) (n c : Nat) (N : List Nd) (a2 : Option Addr) (n2 c2 : Nat) (P : List Pr) (w : World) (h : Sl 3 encN w a n N) (hn : n ≤ 1000) (h2 : PL w a2 n2 P) (hn2 : n2 ≤ 1000000) (hP : ∀ p ∈ P, p.known.length ≤ 2000000 ∧ p.near.length ≤ 2000000) :
    Calls Tryd.prog 23 #[.slice a n c, .slice a2 n2 c2] w fun e w' => e = .returned (.bool (connB N P)) ∧ Ex w w' := by
  have HL := Lib.hid h.len
  have EX := Ex.refl w
  go_enter Tryd.func23, Tryd.ntmps23
  go_wp2_with fail
  (with_reducible refine (is_r _ _ _ _ _ h (by omega)).mono ?_)
  rintro e w1 ⟨rfl, kk⟩
  replace h := h.nx kk
  replace h2 := h2.nx kk
  replace EX := EX.nx kk
  clear kk
  by_cases hck : checkN N = 0
  case neg =>
    have d1 : (checkN N == 0) = false := by simpa using hck
    have E0 : Hid (connB N P = false) := Lib.hid (by unfold connB; rw [d1]; rfl)
    have EH := Lib.hid EX
    rw [d1]
    clear h h2 hck EX
    go_wp2_with fail
    go_ret
    exact ⟨by rw [E0.out]; rfl, EH.out⟩
  have d1 : (checkN N == 0) = true := by simpa using hck
  have E0 : Hid (connB N P = decide (Lab.partsL (N.map Nd.id) (pairsN N P) ≤ 1)) := Lib.hid (by unfold connB; rw [d1]; rfl)
  rw [d1]
  have HC := Lib.hid hck
  clear hck d1
  go_wp2_with fail
  (with_reducible refine (pairs_r _ _ _ N _ _ _ P _ h hn HC.out h2 hn2 hP).mono ?_)
  rintro e w2 ⟨v2, rfl, own, kk⟩
  replace h := h.nx kk
  replace EX := EX.nx kk
  clear kk
  obtain ⟨a3, c3, rfl, r3, _, _, _, _⟩ := own.rd (fun _ => rfl)
  have S3 : Sl 2 encP2 w2 a3 (pairsN N P).length (pairsN N P) := Rd.mono r3 (fun _ hk => hk.2)
  have hpl : (pairsN N P).length ≤ 1000000 := by have := prsU_len HC.out P N.length; rw [prsU_all] at this; omega
  clear own r3 h2
  go_wp2_with fail
  (with_reducible refine (joined_r _ _ _ N _ _ _ (pairsN N P) _ h hn S3 hpl).mono ?_)
  rintro e w3 ⟨aj, cj, rfl, kk⟩
  replace EX := EX.nx kk
  clear kk
  generalize Lab.partsL (N.map Nd.id) (pairsN N P) = m at E0 ⊢
  have EH := Lib.hid EX
  clear h S3 hpl EX
  have E1 : Hid (connB N P = decide ((m : Int) ≤ 1)) := Lib.hid (by rw [E0.out, decide_eq_decide]; omega)
  clear E0
  go_wp2_with fail
  go_ret
  exact ⟨by rw [E1.out]; rfl, EH.out⟩
end Go.Proofs.YtbnbjiddffihoaaDoor

/- Joined of the tape: peers by which the nodes are connected. -/
namespace Go.Proofs.YtbnbjiddffihoaaDoor
open Go.RowKit

theorem wpList_append_rda {P : Program} {α : Type} {enc : α → List Value} {ops : Array Oper} {rest : List Oper} {o : Oper} {a : Act} {Q : Exit → Act → World → Prop} (w0 : World) (hgd : o.guard = none) (s x : Operand) (t : TypeId)
    (ho : o.op = .call { callee := .builtin .append, args := #[s, x], argTypes := #[t, t] })
    (base : Nat) (e : TypeId) (z : Value) (sz bytes : Nat) (ht : P.underlying t = some (.slice e)) (hi : (P.info? e).map (fun i => (i.zero, i.size, i.bytes)) = some (some z, sz, bytes))
    (hzs : z.cells.size = sz) (hsz : 0 < sz) (hby : bytes ≤ 65536)
    (v : Value) (l : List α) (hown : OwnL sz enc e base w0 v l) (hs : a.eval s = v) (S : Nat → Prop) (A : Option Addr) (n c : Nat) (news : List α) (hrd : Rd sz enc S w0 A n news) (hA : A = none → c = 0) (hlen : ∀ y, (enc y).length = sz) (h1 : ∀ y, ∀ u ∈ enc y, u.oneCell' = true)
    (hx : a.eval x = .slice A n c) (hl : l.length ≤ 100000000) (hn : n ≤ 100000000) (hbase : base ≤ w0.heap.size)
    (h : ∀ v' w', OwnL sz enc e base w' v' (l ++ news) → Chg (fun k => k < w0.heap.size ∧ ¬ v.ownBlock = some k) w0 w' → Chg (· < base) w0 w' → (v'.ownBlock = v.ownBlock ∨ v'.ownBlock = some w0.heap.size) → wpList P ops Q rest (a.put o.dst v') w') :
    wpList P ops Q (o :: rest) a w0 :=
  wpList_plain hgd fun _ hK => wp_append_rda w0 s x t ho base e z sz bytes ht hi hzs hsz hby v l hown hs S A n c news hrd hA hlen h1 hx hl hn hbase fun v' w' h2 h3 h4 h5 => hK _ _ (h v' w' h2 h3 h4 h5)
structure JoOf (b : Nat) (l : List Nd) (w w' : World) (v : Value) (qs : List PQ) (P : List Pr) : Prop where
  own : OwnPr w.heap.size w' v qs P
  ids : SameIds l P
  conn : ConnN l P
  small : ∀ p ∈ P, p.known.length ≤ 100 ∧ p.near.length ≤ 200
  tape : TK w' b
  k : Exb b w w'
def JoPost (b : Nat) (l : List Nd) (w : World) (e : Ending) (w' : World) : Prop := ∃ v qs P, e = .returned v ∧ JoOf b l w w' v qs P
def FewQ (m M : Nat) (P : List Pr) : Prop := ∀ p ∈ P, p.known.length ≤ m ∧ p.near.length ≤ M
theorem FewQ.snoc {m M : Nat} {P : List Pr} (h : FewQ m M P) {p : Pr} (hp : p.known.length ≤ m ∧ p.near.length ≤ M) : FewQ m M (P ++ [p]) := fun x hx => by
  rcases List.mem_append.1 hx with h1 | h1
  · exact h x h1
  · rw [List.mem_singleton.1 h1]; exact hp
theorem FewQ.set {m M m' M' a : Nat} {P : List Pr} (h : FewQ m M P) (hm : m ≤ m') (hM : M ≤ M') {p : Pr} (hp : p.known.length ≤ m' ∧ p.near.length ≤ M') : FewQ m' M' (P.set a p) := fun x hx => by
  rcases List.mem_or_eq_of_mem_set hx with h1 | h1
  · have := h x h1; omega
  · rw [h1]; exact hp
theorem same_snoc {l : List Nd} {P : List Pr} (h : ∀ (i : Nat) (x : Nd) (p : Pr), l[i]? = some x → P[i]? = some p → p.id = x.id) {x : Nd} {p : Pr} (hx : l[P.length]? = some x) (hp : p.id = x.id) :
    ∀ (i : Nat) (x : Nd) (q : Pr), l[i]? = some x → (P ++ [p])[i]? = some q → q.id = x.id := by
  intro i y q hy hq
  rcases Nat.lt_or_ge i P.length with h1 | h1
  · rw [List.getElem?_append_left h1] at hq
    exact h i y q hy hq
  · have h2 := (List.getElem?_eq_some_iff.1 hq).1
    rw [List.length_append, List.length_singleton] at h2
    obtain rfl : i = P.length := by omega
    rw [hx] at hy
    cases hy
    simp at hq
    rw [← hq]
    exact hp
theorem same_set {l : List Nd} {P : List Pr} (h : SameIds l P) {a : Nat} {p p' : Pr} (hp : P[a]? = some p) (he : p'.id = p.id) : SameIds l (P.set a p') := by
  refine ⟨by rw [List.length_set]; exact h.1, fun i x q hx hq => ?_⟩
  by_cases hia : i = a
  · subst hia
    rw [List.getElem?_set_self (List.getElem?_eq_some_iff.1 hp).1] at hq
    cases hq
    rw [he]
    exact h.2 i x p hx hp
  · rw [List.getElem?_set_ne (fun h => hia h.symm)] at hq
    exact h.2 i x q hx hq
def JoARel (m b na : Nat) (l : List Nd) (w : World) (o i : Value) (wr : World) : Prop :=
  ∃ (j : Nat) (qs : List PQ) (P : List Pr), j ≤ na ∧ i = .int .i64 j ∧ OwnPr w.heap.size wr o qs P ∧ P.length = j ∧ (∀ (i : Nat) (x : Nd) (p : Pr), l[i]? = some x → P[i]? = some p → p.id = x.id) ∧ FewQ 3 m P ∧ TK wr b ∧ Exb b w wr
def JoBRel (m b na : Nat) (l : List Nd) (v : Value) (w : World) (i : Value) (wr : World) : Prop :=
  ∃ (k : Nat) (qs : List PQ) (P : List Pr), 1 ≤ k ∧ k ≤ na + 1 ∧ i = .int .i64 k ∧ OwnPr w.heap.size wr v qs P ∧ SameIds l P ∧ FewQ (3 + k) (m + k) P ∧ TK wr b ∧ Exb b w wr
def JoXCut (b na : Nat) (w5 : World) (s11 s12 : Value) (wx : World) : Prop := ∃ a c : Nat, s11 = .int .i64 a ∧ s12 = .int .i64 c ∧ a < na ∧ c < na ∧ TK wx b ∧ Exb b w5 wx
def JoCRel (b na : Nat) (m M : Nat) (l : List Nd) (v : Value) (w : World) (i : Value) (wr : World) : Prop :=
  ∃ (k : Nat) (qs : List PQ) (P : List Pr), 1 ≤ k ∧ k ≤ na + 1 ∧ i = .int .i64 k ∧ OwnPr w.heap.size wr v qs P ∧ SameIds l P ∧ (∀ (i : Nat) (x : Nd) (p : Pr), i + 1 < k → l[i]? = some x → P[i + 1]? = some p → x.id ∈ p.known) ∧ FewQ (m + k) M P ∧ TK wr b ∧ Exb b w wr
set_option maxRecDepth 100000 in
set_option maxHeartbeats 16000000 in
theorem joined_t {b : Nat} (ht : Nat) (a : Option Addr) (na cp : Nat) (l : List Nd) (w : World) (h : TK w b) (hs : Slb 3 encN b w a na l) (hna : na ≤ 20) (hcp : na ≤ cp) (hmx : cp ≤ maxLen) (h0 : checkN l = 0) (hht : ht ≤ 100) :
    Calls Tryd.prog 28 #[.pointer (some ⟨b, 0, none⟩), .slice a na cp, .int .i64 ht] w (JoPost b l w) := by
  have hbw := h.lt
  have H0 := Lib.hid h0
  have HI : Hid (∀ x ∈ l, I64 x.id) := Lib.hid (fun x hx => (roster_ok h0 x hx).1.1)
  have HS := Lib.hid hs
  have HLN := Lib.hid hs.len
  clear hs h0
  go_enter Tryd.func28, Tryd.ntmps28
  go_wp2_with fail
  go_loopw [7, 8] (fun o i wr => JoARel (ht + 1) b na l w o i wr) (fun _ i _ => na - (intOf i).toNat)
  case atStart => exact ⟨0, [], [], by omega, rfl, OwnP.nil _ _ _ _ _, rfl, by intro i x p _ h; simp at h, by intro p h; simp at h, h, Exb.refl _ _⟩
  case round =>
    clear h
    obtain ⟨j, qs, P, hj, rfl, own, hPl, hids, few, T, kw⟩ := hrel
    obtain ⟨wo, rfl⟩ : ∃ wo : World, wo = wr := ⟨_, rfl⟩
    have zo := kw.size
    have hql : qs.length = j := by rw [own.2.1, hPl]
    have OWN := Lib.hid own
    have HIDS := Lib.hid hids
    have FEW := Lib.hid few
    have KW := Lib.hid kw
    clear own hids few kw
    by_cases hjn : j < na
    · obtain ⟨xl, ol, y, rfl, hxl, hy, hcl⟩ := Rd.at (HS.out.nxb KW.out) (j := j) hjn
      have e0 : wo.cell? ⟨xl, ol + j * 3, none⟩ = some (.int .i64 y.id) := hcl 0 _ rfl
      have HY := Lib.hid hy
      clear hcl hy
      go_wp2_with fail
      (refine (peer_t ht _ _ _ l _ T (HS.out.nxb KW.out) (by omega) HI.out hht).mono ?_)
      clear T
      rintro e w2 ⟨p, ⟨A1, m1, c1⟩, ⟨A4, m4, c4⟩, rfl, D⟩
      have ok := D.ok
      have on := D.on
      have T := D.tape
      have K2 := Lib.hid D.k
      have dl := Lib.hid (show p.known.length ≤ 3 ∧ p.near.length ≤ ht + 1 from ⟨D.lk, D.ln⟩)
      replace e0 := Chg.cellv D.k e0 hxl
      have hx2 := Nat.lt_of_lt_of_le hxl.1 D.k.size
      have hxb := hxl.2
      simp only [Hdr.val] at ok on ⊢
      have z2 := D.k.size
      clear D
      have B9 := Blk.new w2 [.int .i64 p.id, .slice A1 m1 c1, .int .i64 p.left, .int .i64 p.right, .slice A4 m4 c4] 41
      have kk := Ex.new w2 (.cells #[.int .i64 p.id, .slice A1 m1 c1, .int .i64 p.left, .int .i64 p.right, .slice A4 m4 c4] 41)
      obtain ⟨w4, hw4⟩ : ∃ w4, w4 = w2.alloc (.cells #[.int .i64 p.id, .slice A1 m1 c1, .int .i64 p.left, .int .i64 p.right, .slice A4 m4 c4] 41) := ⟨_, rfl⟩
      obtain ⟨g9, hg9⟩ : ∃ g9, g9 = w2.heap.size := ⟨_, rfl⟩
      replace B9 : Blk w4 g9 [.int .i64 p.id, .slice A1 m1 c1, .int .i64 p.left, .int .i64 p.right, .slice A4 m4 c4] 41 := by rw [hw4, hg9]; exact B9
      rw [← hw4] at kk
      have Hw4 := Lib.hid hw4
      have Hg9 := Lib.hid hg9
      replace ok := ok.nx kk
      replace on := on.nx kk
      replace T := T.nx kk
      have zg9 : wo.heap.size ≤ g9 := by omega
      have zb9 : b < g9 := by omega
      have nx9 : ¬ xl = g9 := by omega
      replace e0 := Chg.cellv (p := ⟨xl, ol + j * 3, none⟩) kk e0 hx2
      replace K2 := Lib.hid (K2.out.nxb (kk.b b))
      clear kk hw4 hg9
      go_upto_region 6 with fail
      rw [← Hg9.out, ← Hw4.out]
      clear Hg9 Hw4
      have c0 := B9.cell 0 _ rfl
      have f0 := B9.free 0
      have KS : Exb g9 w4 (w4.setCell ⟨g9, 0, none⟩ (.int .i64 y.id)) := (Exb.refl g9 w4).setB (p := ⟨g9, 0, none⟩) _ rfl
      obtain ⟨w5, hw5⟩ : ∃ w5, w5 = w4.setCell ⟨g9, 0, none⟩ (.int .i64 y.id) := ⟨_, rfl⟩
      go_upto_region 7 with fail
      rw [← hw5] at KS ⊢
      have ok5 := ok.put B9 (by decide) KS
      have on5 := on.put B9 (by decide) KS
      have T5 : TK w5 b := by rw [hw5]; exact T.set (p := ⟨g9, 0, none⟩) _ zb9
      have K5 : Exb b wo w5 := by rw [hw5]; exact K2.out.setNew (p := ⟨g9, 0, none⟩) _ zg9
      replace B9 : Blk w5 g9 [.int .i64 y.id, .slice A1 m1 c1, .int .i64 p.left, .int .i64 p.right, .slice A4 m4 c4] 41 := by rw [hw5]; exact B9.set 0 _
      have p0 := B9.cell 0 _ rfl
      have p1 := B9.cell 1 _ rfl
      have p2 := B9.cell 2 _ rfl
      have p3 := B9.cell 3 _ rfl
      have p4 := B9.cell 4 _ rfl
      have OWN5 := Lib.hid (OWN.out.nxb hbw K5)
      have KW5 := Lib.hid (KW.out.nxb K5)
      have kl := Ex.new w5 (.cells #[.int .i64 y.id, .slice A1 m1 c1, .int .i64 p.left, .int .i64 p.right, .slice A4 m4 c4] 41)
      have OL := Lib.hid (OWN5.out.nx kl)
      have okl := Lib.hid (ok5.nx kl)
      have onl := Lib.hid (on5.nx kl)
      have Tl := T5.nx kl
      have KL := Lib.hid (KW5.out.nxb (kl.b b))
      have zl := KL.out.size
      have SN := Lib.hid (same_snoc (p := ⟨y.id, p.left, p.right, p.known, p.near⟩) HIDS.out (by rw [hPl]; exact HY.out) rfl)
      clear hw5 c0 f0 KS ok on T B9 e0 T5 K5 ok5 on5 kl
      go_wp2_with (at_builtin; (refine wpList_append_W (enc := encQ) _ rfl _ _ 36 rfl w.heap.size 41 (.agg #[.int .i64 0, .slice none 0 0, .int .i64 0, .int .i64 0, .slice none 0 0]) 5 72 Tryd.underlying36 Tryd.infoPr rfl (by omega) (by omega) _ qs OL.out.row rfl _ 1 1 [((y.id, p.left, p.right), (A1, m1, c1), (A4, m4, c4))] (Sl.lit _ rfl rfl encQ_len rfl) encQ_len encQ_one rfl (by omega) (by omega) zl ?_); intro v9 w9 own9 ch0 ch1 _)
      have O9 := OWN.out.app2 (p := ⟨y.id, p.left, p.right, p.known, p.near⟩) (hk := (A1, m1, c1)) (hn := (A4, m4, c4)) (by decide) (by decide) zo OL.out okl.out onl.out own9 ch0
      exact ⟨⟨j + 1, _, P ++ [⟨y.id, p.left, p.right, p.known, p.near⟩], by omega, by go_num, O9, by simp [hPl], SN.out, FEW.out.snoc dl.out, TP.chg Tl ch1 (fun x hx => by omega), Chg.trans KL.out (ch1.mono (fun x hx => hx.1))⟩, by simp [intOf]; omega⟩
    · obtain rfl : j = na := by omega
      obtain ⟨aV, cV, rfl, _, _, _, hVg, _⟩ := OWN.out.pl
      rw [hPl] at OWN ⊢
      have SI : Hid (SameIds l P) := Lib.hid ⟨by rw [hPl]; exact HLN.out.symm, HIDS.out⟩
      have HVG : Hid (1 ≤ j → ∃ g, aV = some ⟨g, 0, none⟩ ∧ w.heap.size ≤ g) := Lib.hid (fun h1 => hVg (fun hP => by rw [hP] at hPl; simp at hPl; omega))
      have FEW1 : Hid (FewQ (3 + 1) (ht + 1 + 1) P) := Lib.hid (fun p hp => by have := FEW.out p hp; omega)
      clear HIDS hVg hjn hj zo
      go_wp2_with fail
      go_loopw [10] (fun i wr => JoBRel (ht + 1) b j l (.slice aV j cV) w i wr) (fun i _ => j + 1 - (intOf i).toNat)
      case atStart => exact ⟨1, qs, P, by omega, by omega, rfl, OWN.out, SI.out, FEW1.out, T, KW.out⟩
      case round =>
        clear T OWN SI FEW FEW1 KW
        obtain ⟨k, qs, P, hk1, hk, rfl, own, si, few, T, kw⟩ := hrel
        obtain ⟨wo, rfl⟩ : ∃ wo : World, wo = wr := ⟨_, rfl⟩
        have OWN := Lib.hid own
        have SI := Lib.hid si
        have FEW := Lib.hid few
        have KW := Lib.hid kw
        clear own si few kw
        by_cases hkn : k < j
        · obtain ⟨g, hge, hg⟩ := HVG.out (by omega)
          subst hge
          go_wp2_with fail
          (refine (next_t k _ T (by omega) (by omega)).mono ?_)
          clear T
          rintro e w5 ⟨r, rfl, hr0, hr1, T, kk⟩
          obtain ⟨r, rfl⟩ : ∃ t : Nat, r = t := ⟨r.toNat, by omega⟩
          replace KW := Lib.hid (KW.out.nxb kk)
          replace OWN := Lib.hid (OWN.out.nxb hbw kk)
          clear kk
          go_wp2_with fail
          (refine (bool_t 2 _ T (by omega) (by omega)).mono ?_)
          clear T
          rintro e w6 ⟨rb, rfl, T, kk⟩
          replace KW := Lib.hid (KW.out.nxb kk)
          replace OWN := Lib.hid (OWN.out.nxb hbw kk)
          clear kk
          go_upto_if 46 with fail
          go_cut [11, 12] from 47 to 89 (fun s11 s12 wx => JoXCut b j w6 s11 s12 wx)
          case first =>
            cases rb with
            | true =>
              have CUT := Lib.hid (show JoXCut b j w6 (.int .i64 r) (.int .i64 k) w6 from ⟨r, k, rfl, rfl, by omega, hkn, T, Exb.refl _ _⟩)
              clear T
              go_wp2_with fail
              go_meet
              exact CUT.out
            | false =>
              have CUT := Lib.hid (show JoXCut b j w6 (.int .i64 k) (.int .i64 r) w6 from ⟨k, r, rfl, rfl, hkn, by omega, T, Exb.refl _ _⟩)
              clear T
              go_wp2_with fail
              go_meet
              exact CUT.out
          case rest =>
            clear T
            rename World => w7
            obtain ⟨x, y, rfl, rfl, hx, hy, T, k7⟩ := hcut
            replace KW := Lib.hid (KW.out.nxb k7)
            replace OWN := Lib.hid (OWN.out.nxb hbw k7)
            obtain ⟨xl, ol, nd, rfl, hxl, hnd, hcl⟩ := Rd.at (HS.out.nxb KW.out) (j := y) hy
            have e0 : w7.cell? ⟨xl, ol + y * 3, none⟩ = some (.int .i64 nd.id) := hcl 0 _ rfl
            clear k7 hcl hnd
            go_wp2_with fail
            (refine (next_t 4 _ T (by omega) (by omega)).mono ?_)
            clear T
            rintro e w8 ⟨q, rfl, hq0, hq1, T, kk⟩
            replace KW := Lib.hid (KW.out.nxb kk)
            have own8 := OWN.out.nxb hbw kk
            clear kk e0 OWN
            have hlP : P.length = j := by rw [SI.out.1, HLN.out]
            obtain ⟨p, hp⟩ : ∃ p, P[x]? = some p := ⟨P[x]'(by omega), by simp⟩
            obtain ⟨⟨A1, m1, c1⟩, ⟨A4, m4, c4⟩, hq, ok, on⟩ := own8.get hp
            have fp := FEW.out p (List.mem_of_getElem? hp)
            have zbg : b < g := by omega
            have z8 := KW.out.size
            have FS : Hid (∀ p' : Pr, p'.known.length ≤ p.known.length + 1 → p'.near.length ≤ p.near.length + 1 → FewQ (3 + (k + 1)) (ht + 1 + (k + 1)) (P.set x p')) := Lib.hid (fun p' h1 h2 => FEW.out.set (by omega) (by omega) (by omega))
            have SS : Hid (∀ p' : Pr, p'.id = p.id → SameIds l (P.set x p')) := Lib.hid (fun p' h1 => same_set SI.out hp h1)
            rcases (show q = 0 ∨ q = 1 ∨ (q ≠ 0 ∧ q ≠ 1) by omega) with rfl | rfl | ⟨hqa, hqb⟩
            · obtain ⟨s1, s2, O9⟩ := own8.num (by decide) (by decide) (p' := { p with left := nd.id }) (c := 2) (x := nd.id) hq hp (by omega) rfl rfl rfl
              have s1' : w8.cell? ⟨g, x * 5 + 2, none⟩ = some (.int .i64 p.left) := s1
              have RR := Lib.hid (show JoBRel (ht + 1) b j l (.slice (some ⟨g, 0, none⟩) j cV) w (.int .i64 ((k : Int) + 1)) (w8.setCell ⟨g, x * 5 + 2, none⟩ (.int .i64 nd.id)) from
                ⟨k + 1, _, _, by omega, by omega, by go_num, O9, SS.out _ rfl, FS.out _ (by simp) (by simp), T.set (p := ⟨g, x * 5 + 2, none⟩) _ zbg, KW.out.setNew (p := ⟨g, x * 5 + 2, none⟩) _ hg⟩)
              clear s1 O9 own8 hq hp ok on T
              go_wp2_with fail
              exact ⟨RR.out, by simp [intOf]; omega⟩
            · have s4 : w8.cell? ⟨g, x * 5 + 4, none⟩ = some (.slice A4 m4 c4) := (OwnW.set1 encQ_len own8.1 hq (c := 4) (by omega)).1
              have kl := Ex.new w8 (.cells #[.int .i64 0, .int .i64 0, .int .i64 0, .int .i64 nd.id] 77)
              have on9 := on.nx kl
              have OW9 := Lib.hid (own8.nx kl)
              have zb := Nat.le_trans z8 kl.size
              have T9 := Lib.hid (T.nx kl)
              have K9 := Lib.hid (KW.out.nxb (kl.b b))
              simp only [Hdr.val] at on9
              clear own8 ok on T
              go_wp2_with (at_builtin; (refine wpList_append_rda (enc := encNr) _ rfl _ _ 39 rfl w.heap.size 77 (.agg #[.int .i64 0, .int .i64 0, .int .i64 0, .int .i64 0]) 4 32 Tryd.underlying39 Tryd.infoNr rfl (by omega) (by omega) _ p.near on9 rfl _ _ 1 1 [(0, 0, 0, nd.id)] (Sl.lit _ rfl rfl (fun _ => rfl) rfl) (fun h => by cases h) (fun _ => rfl) (by simp [encNr, Value.oneCell']) rfl (by omega) (by omega) zb ?_); intro va w1 A ch0 ch1 hva; obtain ⟨A9, C9, e9, _, _, _, _⟩ := A.rd (fun _ => rfl); generalize (p.near ++ [(0, 0, 0, nd.id)]).length = L9 at e9; subst e9; obtain ⟨s1, s2, O9⟩ := OW9.out.growN (hn' := (A9, L9, C9)) (by decide) (by decide) (by decide) hq hp A ch0 (show ∀ g, (Value.slice A9 L9 C9).ownBlock = some g → (Hdr.val (A4, m4, c4)).ownBlock = some g ∨ _ from own_hist hva (Nat.le_refl _)); simp only [Hdr.val] at s1 O9; replace O9 := Lib.hid O9)
              have RR := Lib.hid (show JoBRel (ht + 1) b j l (.slice (some ⟨g, 0, none⟩) j cV) w (.int .i64 ((k : Int) + 1)) (w1.setCell ⟨g, x * 5 + 4, none⟩ (.slice A9 L9 C9)) from
                ⟨k + 1, _, _, by omega, by omega, by go_num, O9.out, SS.out { p with near := (p.near ++ [(0, 0, 0, nd.id)]) } rfl, FS.out { p with near := (p.near ++ [(0, 0, 0, nd.id)]) } (by simp) (by simp), (show TK w1 b from TP.chg T9.out ch1 (fun x hx => by omega)).set (p := ⟨g, x * 5 + 4, none⟩) _ zbg, (show Exb b w w1 from Chg.trans K9.out (ch1.mono (fun x hx => hx.1))).setNew (p := ⟨g, x * 5 + 4, none⟩) _ hg⟩)
              exact ⟨RR.out, by simp [intOf]; omega⟩
            · have d0 : (q == 0) = false := by simpa using hqa
              have d1 : (q == 1) = false := by simpa using hqb
              have s4 : w8.cell? ⟨g, x * 5 + 1, none⟩ = some (.slice A1 m1 c1) := (OwnW.set1 encQ_len own8.1 hq (c := 1) (by omega)).1
              have kl := Ex.new w8 (.cells #[.int .i64 nd.id] 3)
              have ok9 := ok.nx kl
              have OW9 := Lib.hid (own8.nx kl)
              have zb := Nat.le_trans z8 kl.size
              have T9 := Lib.hid (T.nx kl)
              have K9 := Lib.hid (KW.out.nxb (kl.b b))
              simp only [Hdr.val] at ok9
              clear own8 ok on T hqa hqb
              go_wp2_with (at_builtin; (refine wpList_append_rda (enc := encI) _ rfl _ _ 22 rfl w.heap.size 3 (.int .i64 0) 1 8 Tryd.underlying22 Tryd.infoI6 rfl (by omega) (by omega) _ p.known ok9 rfl _ _ 1 1 [nd.id] (Sl.lit _ rfl rfl (fun _ => rfl) rfl) (fun h => by cases h) (fun _ => rfl) (by simp [encI, Value.oneCell']) rfl (by omega) (by omega) zb ?_); intro va w1 A ch0 ch1 hva; obtain ⟨A9, C9, e9, _, _, _, _⟩ := A.rd (fun _ => rfl); generalize (p.known ++ [nd.id]).length = L9 at e9; subst e9; obtain ⟨s1, s2, O9⟩ := OW9.out.growK (hk' := (A9, L9, C9)) (by decide) (by decide) (by decide) hq hp A ch0 (show ∀ g, (Value.slice A9 L9 C9).ownBlock = some g → (Hdr.val (A1, m1, c1)).ownBlock = some g ∨ _ from own_hist hva (Nat.le_refl _)); simp only [Hdr.val] at s1 O9; replace O9 := Lib.hid O9)
              have RR := Lib.hid (show JoBRel (ht + 1) b j l (.slice (some ⟨g, 0, none⟩) j cV) w (.int .i64 ((k : Int) + 1)) (w1.setCell ⟨g, x * 5 + 1, none⟩ (.slice A9 L9 C9)) from
                ⟨k + 1, _, _, by omega, by omega, by go_num, O9.out, SS.out { p with known := (p.known ++ [nd.id]) } rfl, FS.out { p with known := (p.known ++ [nd.id]) } (by simp) (by simp), (show TK w1 b from TP.chg T9.out ch1 (fun x hx => by omega)).set (p := ⟨g, x * 5 + 1, none⟩) _ zbg, (show Exb b w w1 from Chg.trans K9.out (ch1.mono (fun x hx => hx.1))).setNew (p := ⟨g, x * 5 + 1, none⟩) _ hg⟩)
              exact ⟨RR.out, by simp [intOf]; omega⟩
        · obtain ⟨aX, cX, hXe, PX, _, _, _, _⟩ := OWN.out.pl
          have hlP : P.length = j := by rw [SI.out.1, HLN.out]
          rw [hlP] at hXe PX
          injection hXe with hx1 hx2 hx3
          subst hx1 hx3
          have HP := Lib.hid PX
          have KS := KW.out.size
          clear PX hx2
          have FC : Hid (∀ p ∈ P, p.known.length ≤ 2000000 ∧ p.near.length ≤ 2000000) := Lib.hid (fun p hp => by have := FEW.out p hp; omega)
          go_wp2_with fail
          (with_reducible refine (connected_r _ _ _ l _ _ _ P _ (HS.out.nxb KW.out).sl (by omega) HP.out (by omega) FC.out).mono ?_)
          rintro e w6 ⟨rfl, kk⟩
          have OWN6 := Lib.hid (OWN.out.nx kk)
          have KW6 := Lib.hid (KW.out.nxb (kk.b b))
          have T6 := T.nx kk
          clear kk OWN KW T HP KS
          cases hcb : connB l P with
          | true =>
            have FIN := Lib.hid (show JoOf b l w w6 (.slice aV j cV) qs P from ⟨OWN6.out, SI.out, connB_iff.1 hcb, fun p hp => by have := FEW.out p hp; omega, T6, KW6.out⟩)
            clear hcb T6
            go_wp2_with fail
            go_ret
            exact ⟨_, qs, P, rfl, FIN.out⟩
          | false =>
            have m0 : ∃ m0, m0 = 3 + k := ⟨_, rfl⟩
            obtain ⟨m0, hm0⟩ := m0
            obtain ⟨M0, hM0⟩ : ∃ M0, M0 = ht + 1 + k := ⟨_, rfl⟩
            have FEW3 : Hid (FewQ (m0 + 1) M0 P) := Lib.hid (fun p hp => by have := FEW.out p hp; omega)
            have hm25 : m0 ≤ 24 := by omega
            have hM200 : M0 ≤ 200 := by omega
            clear hcb FEW hm0 hM0
            go_wp2_with fail
            go_loopw [14] (fun i wr => JoCRel b j m0 M0 l (.slice aV j cV) w i wr) (fun i _ => j + 1 - (intOf i).toNat)
            case atStart => exact ⟨1, qs, P, by omega, by omega, rfl, OWN6.out, SI.out, fun i x p h => by omega, FEW3.out, T6, KW6.out⟩
            case round =>
              clear T6 OWN6 SI FEW3 KW6 hk hk1 hkn
              obtain ⟨k, qs, P, hk1, hk, rfl, own, si, hch, few, T, kw⟩ := hrel
              obtain ⟨wo, rfl⟩ : ∃ wo : World, wo = wr := ⟨_, rfl⟩
              have OWN := Lib.hid own
              have SI := Lib.hid si
              have CH := Lib.hid hch
              have FEW := Lib.hid few
              have KW := Lib.hid kw
              have TH := Lib.hid T
              clear own si few kw hch T
              have hlP : P.length = j := by rw [SI.out.1, HLN.out]
              by_cases hkn : k < j
              · obtain ⟨g, hge, hg⟩ := HVG.out (by omega)
                subst hge
                obtain ⟨xl, ol, nd, rfl, hxl, hnd, hcl⟩ := Rd.at (HS.out.nxb KW.out) (j := k - 1) (by omega)
                have CL : Hid (∀ wq, Ex wo wq → wq.cell? ⟨xl, ol + (k - 1) * 3, none⟩ = some (.int .i64 nd.id)) := Lib.hid (fun wq kq => Chg.cellv kq (hcl 0 _ rfl) hxl.1)
                obtain ⟨p, hp⟩ : ∃ p, P[k]? = some p := ⟨P[k]'(by omega), by simp⟩
                obtain ⟨⟨A1, m1, c1⟩, hn, hq, ok, on⟩ := OWN.out.get hp
                have fp := FEW.out p (List.mem_of_getElem? hp)
                have s4 : wo.cell? ⟨g, k * 5 + 1, none⟩ = some (.slice A1 m1 c1) := (OwnW.set1 encQ_len OWN.out.1 hq (c := 1) (by omega)).1
                have hgo : g < wo.heap.size := OwnW.blk_lt OWN.out.1 rfl
                have CR : Hid (∀ wq, Ex wo wq → wq.cell? ⟨g, k * 5 + 1, none⟩ = some (.slice A1 m1 c1)) := Lib.hid (fun wq kq => Chg.cellv kq s4 hgo)
                have FS : Hid (FewQ (m0 + (k + 1)) M0 (P.set k { p with known := p.known ++ [nd.id] })) := Lib.hid (FEW.out.set (by omega) (by omega) ⟨by simp; omega, by simp; omega⟩)
                have SS : Hid (SameIds l (P.set k { p with known := p.known ++ [nd.id] })) := Lib.hid (same_set SI.out hp rfl)
                have CS : Hid (∀ (i : Nat) (x : Nd) (q : Pr), i + 1 < k + 1 → l[i]? = some x → (P.set k { p with known := p.known ++ [nd.id] })[i + 1]? = some q → x.id ∈ q.known) := Lib.hid (fun i x q hi hx hq => by
                  by_cases hik : i + 1 = k
                  · subst hik
                    rw [List.getElem?_set_self (by omega)] at hq
                    cases hq
                    rw [Nat.add_sub_cancel] at hnd
                    rw [Option.some.inj (hx.symm.trans hnd)]
                    simp
                  · rw [List.getElem?_set_ne (fun h => hik h.symm)] at hq
                    exact CH.out i x q (by omega) hx hq)
                have hwk : IntKind.i64.wrap ((k : Int) - 1) = (k : Int) - 1 := IntWalk.i64_in _ (by omega)
                have h01 : (1 : Int) ≤ (k : Int) := by omega
                have h02 : (k : Int) - 1 < (j : Int) := by omega
                have h03 : (k : Int) < (j : Int) := by omega
                have zbg : b < g := by omega
                have zo := KW.out.size
                have OK := Lib.hid ok
                have HQ := Lib.hid hq
                have HP := Lib.hid hp
                clear hcl hnd hp hq ok on s4 hxl
                go_upto_region 25 with fail
                refine wp_region_late_drew (S := Ex wo) [14, 15, 16, 17] (by kernel_rfl) ((Ex.refl wo).drew) (fun hHeld => ?_)
                obtain ⟨wd, hwdx⟩ : ∃ wd : World, wd = World.drew wo := ⟨_, rfl⟩
                rw [← hwdx] at hHeld ⊢
                have hDrew : Ex wo wd := by rw [hwdx]; exact (Ex.refl wo).drew
                clear hwdx
                refine wpAnyL_takeP (i := 0) (oi := ⟨some 100, .move (.tmp 7), 36, "tape.go:289", #[], none⟩) (v := ?_) rfl (by kernel_rfl) (by kernel_rfl) (by kernel_rfl) (fun _ _ _ h => h) (Or.inl ⟨by rfl, ?hyr1x0q5⟩) ?restr1x0q5
                case hyr1x0q5 => intro wq hSw; (go_simp); (try with_reducible rfl)
                try simp only [Act.put, List.setIfInBounds_toArray, List.set_cons_zero, List.set_cons_succ]
                refine wpAnyL_takeP (i := 1) (oi := ⟨some 101, .move (.tmp 14), 3, "tape.go:289", #[], none⟩) (v := ?_) rfl (by kernel_rfl) (by kernel_rfl) (by kernel_rfl) (fun _ _ _ h => h) (Or.inl ⟨by rfl, ?hyr1x1q8⟩) ?restr1x1q8
                case hyr1x1q8 => intro wq hSw; (go_simp); (try with_reducible rfl)
                try simp only [Act.put, List.setIfInBounds_toArray, List.set_cons_zero, List.set_cons_succ]
                refine wpAnyL_take (i := 2) (oi := ⟨some 102, .move (.tmp 7), 36, "tape.go:289", #[], none⟩) (v := ?_) rfl (by kernel_rfl) (by kernel_rfl) (by kernel_rfl) (fun _ _ _ h => h) (Or.inl ⟨by rfl, ?hyr1x2q11⟩) (by kernel_rfl) (by kernel_rfl) (by assumption) ?restr1x2q11
                case hyr1x2q11 => intro wq hSw; (go_simp); (try with_reducible rfl)
                try simp only [Act.put, List.setIfInBounds_toArray, List.set_cons_zero, List.set_cons_succ]
                refine wpAnyL_take (i := 3) (oi := ⟨some 103, .move (.tmp 14), 3, "tape.go:289", #[], none⟩) (v := ?_) rfl (by kernel_rfl) (by kernel_rfl) (by kernel_rfl) (fun _ _ _ h => h) (Or.inl ⟨by rfl, ?hyr1x3q14⟩) (by kernel_rfl) (by kernel_rfl) (by assumption) ?restr1x3q14
                case hyr1x3q14 => intro wq hSw; (go_simp); (try with_reducible rfl)
                try simp only [Act.put, List.setIfInBounds_toArray, List.set_cons_zero, List.set_cons_succ]
                refine wpAnyL_take (i := 4) (oi := ⟨some 104, .indexAddr 36 (.tmp 102) (.tmp 103), 0, "tape.go:289", #[⟨2, .data⟩, ⟨3, .data⟩], none⟩) (v := ?_) rfl (by kernel_rfl) (by kernel_rfl) (by kernel_rfl) (fun _ _ _ h => h) (Or.inl ⟨by rfl, ?hyr1x4q17⟩) (by kernel_rfl) (by kernel_rfl) (by assumption) ?restr1x4q17
                case hyr1x4q17 => intro wq hSw; (go_simp); (try with_reducible rfl)
                try simp only [Act.put, List.setIfInBounds_toArray, List.set_cons_zero, List.set_cons_succ]
                refine wpAnyL_take (i := 5) (oi := ⟨some 105, .fieldAddr 41 (.tmp 104) 1, 0, "tape.go:289", #[⟨4, .data⟩], none⟩) (v := ?_) rfl (by kernel_rfl) (by kernel_rfl) (by kernel_rfl) (fun _ _ _ h => h) (Or.inl ⟨by rfl, ?hyr1x5q20⟩) (by kernel_rfl) (by kernel_rfl) (by assumption) ?restr1x5q20
                case hyr1x5q20 => intro wq hSw; (go_simp); (try with_reducible rfl)
                try simp only [Act.put, List.setIfInBounds_toArray, List.set_cons_zero, List.set_cons_succ]
                refine wpAnyL_take (i := 6) (oi := ⟨some 106, .load 22 (.tmp 105), 22, "tape.go:289", #[⟨5, .data⟩], none⟩) (v := ?_) rfl (by kernel_rfl) (by kernel_rfl) (by kernel_rfl) (fun _ _ _ h => h) (Or.inl ⟨by rfl, ?hyr1x6q23⟩) (by kernel_rfl) (by kernel_rfl) (by assumption) ?restr1x6q23
                case hyr1x6q23 => intro wq hSw; (have cq := CR.out wq hSw; go_simp); (try with_reducible rfl)
                try simp only [Act.put, List.setIfInBounds_toArray, List.set_cons_zero, List.set_cons_succ]
                refine wpAnyL_take (i := 7) (oi := ⟨some 107, .move (.tmp 1), 23, "tape.go:289", #[], none⟩) (v := ?_) rfl (by kernel_rfl) (by kernel_rfl) (by kernel_rfl) (fun _ _ _ h => h) (Or.inl ⟨by rfl, ?hyr1x7q26⟩) (by kernel_rfl) (by kernel_rfl) (by assumption) ?restr1x7q26
                case hyr1x7q26 => intro wq hSw; (go_simp); (try with_reducible rfl)
                try simp only [Act.put, List.setIfInBounds_toArray, List.set_cons_zero, List.set_cons_succ]
                refine wpAnyL_take (i := 8) (oi := ⟨some 108, .move (.tmp 14), 3, "tape.go:289", #[], none⟩) (v := ?_) rfl (by kernel_rfl) (by kernel_rfl) (by kernel_rfl) (fun _ _ _ h => h) (Or.inl ⟨by rfl, ?hyr1x8q29⟩) (by kernel_rfl) (by kernel_rfl) (by assumption) ?restr1x8q29
                case hyr1x8q29 => intro wq hSw; (go_simp); (try with_reducible rfl)
                try simp only [Act.put, List.setIfInBounds_toArray, List.set_cons_zero, List.set_cons_succ]
                refine wpAnyL_take (i := 9) (oi := ⟨some 109, .binOp .sub 3 (.tmp 108) (.const (.int .i64 1)) 3, 3, "tape.go:289", #[⟨8, .data⟩], none⟩) (v := ?_) rfl (by kernel_rfl) (by kernel_rfl) (by kernel_rfl) (fun _ _ _ h => h) (Or.inl ⟨by rfl, ?hyr1x9q32⟩) (by kernel_rfl) (by kernel_rfl) (by assumption) ?restr1x9q32
                case hyr1x9q32 => intro wq hSw; (go_simp); (try with_reducible rfl)
                try simp only [Act.put, List.setIfInBounds_toArray, List.set_cons_zero, List.set_cons_succ]
                refine wpAnyL_take (i := 10) (oi := ⟨some 110, .indexAddr 23 (.tmp 107) (.tmp 109), 0, "tape.go:289", #[⟨7, .data⟩, ⟨9, .data⟩], none⟩) (v := ?_) rfl (by kernel_rfl) (by kernel_rfl) (by kernel_rfl) (fun _ _ _ h => h) (Or.inl ⟨by rfl, ?hyr1x10q35⟩) (by kernel_rfl) (by kernel_rfl) (by assumption) ?restr1x10q35
                case hyr1x10q35 => intro wq hSw; (go_simp); (try with_reducible rfl)
                try simp only [Act.put, List.setIfInBounds_toArray, List.set_cons_zero, List.set_cons_succ]
                refine wpAnyL_take (i := 11) (oi := ⟨some 111, .fieldAddr 52 (.tmp 110) 0, 0, "tape.go:289", #[⟨10, .data⟩], none⟩) (v := ?_) rfl (by kernel_rfl) (by kernel_rfl) (by kernel_rfl) (fun _ _ _ h => h) (Or.inl ⟨by rfl, ?hyr1x11q38⟩) (by kernel_rfl) (by kernel_rfl) (by assumption) ?restr1x11q38
                case hyr1x11q38 => intro wq hSw; (go_simp); (try with_reducible rfl)
                try simp only [Act.put, List.setIfInBounds_toArray, List.set_cons_zero, List.set_cons_succ]
                refine wpAnyL_take (i := 12) (oi := ⟨some 112, .load 3 (.tmp 111), 3, "tape.go:289", #[⟨11, .data⟩], none⟩) (v := ?_) rfl (by kernel_rfl) (by kernel_rfl) (by kernel_rfl) (fun _ _ _ h => h) (Or.inl ⟨by rfl, ?hyr1x12q41⟩) (by kernel_rfl) (by kernel_rfl) (by assumption) ?restr1x12q41
                case hyr1x12q41 => intro wq hSw; (have cq := CL.out wq hSw; go_simp); (try with_reducible rfl)
                try simp only [Act.put, List.setIfInBounds_toArray, List.set_cons_zero, List.set_cons_succ]
                refine wpAnyL_ready (rs := [13]) (by kernel_rfl) (by simp) ?_
                refine AllReadyL.cons (o := ⟨some 113, .buildSlice 22 1 #[(0, .tmp 112)], 22, "tape.go:289", #[⟨12, .data⟩], none⟩) rfl (fun K hK => ?_) AllReadyL.nil
                go_simp
                obtain ⟨g8, wq, hg8, hwq, SX, kk⟩ := litF hHeld.size nd.id
                rw [← hg8, ← hwq]
                clear hg8 hwq
                replace hHeld := hHeld.nx kk
                clear kk
                refine hK.out _ _ (hHeld) (fun hHeld => ?_)
                clear hK K
                try simp only [Act.put, List.setIfInBounds_toArray, List.set_cons_zero, List.set_cons_succ]
                refine wpAnyL_ready (rs := [14]) (by kernel_rfl) (by simp) ?_
                refine AllReadyL.consL (o := ⟨some 114, .call { callee := .builtin .append, args := #[.tmp 106, .tmp 113], argTypes := #[22, 22] }, 22, "tape.go:289", #[⟨6, .data⟩, ⟨13, .data⟩], none⟩) rfl (by rfl) (fun K hK => ?_) AllReadyL.nil
                rw [if_pos (by rfl)]
                have rx := OK.out.nx hHeld
                simp only [Hdr.val] at rx
                have zbase := Nat.le_trans zo hHeld.size
                refine wp_append_rda (enc := encI) _ (.tmp 106) (.tmp 113) 22 rfl w.heap.size 3 (.int .i64 0) 1 8 Tryd.underlying22 Tryd.infoI6 rfl (by omega) (by omega) _ p.known rx rfl _ _ 1 1 [nd.id] SX (fun h => by cases h) (fun _ => rfl) (by simp [encI, Value.oneCell']) rfl (by omega) (by omega) zbase ?_
                intro va w1 A ch0 ch1 hva
                obtain ⟨A9, C9, e9, _, _, _, _⟩ := A.rd (fun _ => rfl)
                generalize (p.known ++ [nd.id]).length = L9 at e9
                subst e9
                obtain ⟨s1, s2, O9⟩ := (OWN.out.nx hHeld).growK (hk' := (A9, L9, C9)) (by decide) (by decide) (by decide) HQ.out HP.out A ch0 (show ∀ g, (Value.slice A9 L9 C9).ownBlock = some g → (Hdr.val (A1, m1, c1)).ownBlock = some g ∨ _ from own_hist hva (Nat.le_refl _))
                simp only [Hdr.val] at s1 O9
                replace O9 := Lib.hid O9
                refine hK.out _ _ ?_
                clear hK K
                try simp only [Act.put, List.setIfInBounds_toArray, List.set_cons_zero, List.set_cons_succ]
                refine wpAnyL_ready (rs := [15]) (by kernel_rfl) (by simp) ?_
                refine AllReadyL.consL (o := ⟨some 115, .indexAddr 36 (.tmp 100) (.tmp 101), 0, "tape.go:289", #[⟨0, .data⟩, ⟨1, .data⟩, ⟨0, .phase⟩, ⟨1, .phase⟩, ⟨2, .phase⟩, ⟨3, .phase⟩, ⟨4, .phase⟩, ⟨5, .phase⟩, ⟨6, .phase⟩, ⟨7, .phase⟩, ⟨8, .phase⟩, ⟨9, .phase⟩, ⟨10, .phase⟩, ⟨11, .phase⟩, ⟨12, .phase⟩, ⟨13, .phase⟩, ⟨14, .phase⟩], none⟩) rfl (by rfl) (fun K hK => ?_) AllReadyL.nil
                go_simp
                refine hK.out _ _ ?_
                clear hK K
                try simp only [Act.put, List.setIfInBounds_toArray, List.set_cons_zero, List.set_cons_succ]
                refine wpAnyL_ready (rs := [16]) (by kernel_rfl) (by simp) ?_
                refine AllReadyL.consL (o := ⟨some 116, .fieldAddr 41 (.tmp 115) 1, 0, "tape.go:289", #[⟨15, .data⟩, ⟨0, .phase⟩, ⟨1, .phase⟩, ⟨2, .phase⟩, ⟨3, .phase⟩, ⟨4, .phase⟩, ⟨5, .phase⟩, ⟨6, .phase⟩, ⟨7, .phase⟩, ⟨8, .phase⟩, ⟨9, .phase⟩, ⟨10, .phase⟩, ⟨11, .phase⟩, ⟨12, .phase⟩, ⟨13, .phase⟩, ⟨14, .phase⟩], none⟩) rfl (by rfl) (fun K hK => ?_) AllReadyL.nil
                go_simp
                refine hK.out _ _ ?_
                clear hK K
                try simp only [Act.put, List.setIfInBounds_toArray, List.set_cons_zero, List.set_cons_succ]
                refine wpAnyL_ready (rs := [17]) (by kernel_rfl) (by simp) ?_
                refine AllReadyL.consL (o := ⟨none, .store 22 (.tmp 116) (.tmp 114), 0, "tape.go:289", #[⟨16, .data⟩, ⟨14, .data⟩, ⟨14, .chain⟩, ⟨0, .phase⟩, ⟨1, .phase⟩, ⟨2, .phase⟩, ⟨3, .phase⟩, ⟨4, .phase⟩, ⟨5, .phase⟩, ⟨6, .phase⟩, ⟨7, .phase⟩, ⟨8, .phase⟩, ⟨9, .phase⟩, ⟨10, .phase⟩, ⟨11, .phase⟩, ⟨12, .phase⟩, ⟨13, .phase⟩, ⟨14, .phase⟩], none⟩) rfl (by rfl) (fun K hK => ?_) AllReadyL.nil
                go_simp
                refine hK.out _ _ ?_
                clear hK K
                try simp only [Act.put, List.setIfInBounds_toArray, List.set_cons_zero, List.set_cons_succ]
                refine wpAnyL_done (by kernel_rfl) ?_ _
                have RR := Lib.hid (show JoCRel b j m0 M0 l (.slice (some ⟨g, 0, none⟩) j cV) w (.int .i64 ((k : Int) + 1)) (w1.setCell ⟨g, k * 5 + 1, none⟩ (.slice A9 L9 C9)) from
                  ⟨k + 1, _, _, by omega, by omega, by go_num, O9.out, SS.out, CS.out, FS.out, (show TK w1 b from TP.chg (TH.out.nx hHeld) ch1 (fun x hx => by omega)).set (p := ⟨g, k * 5 + 1, none⟩) _ zbg, (show Exb b w w1 from Chg.trans (KW.out.nxb (hHeld.b b)) (ch1.mono (fun x hx => hx.1))).setNew (p := ⟨g, k * 5 + 1, none⟩) _ hg⟩)
                clear ch0 ch1 hva rx hHeld SX s1 s2 A
                go_wp2_with fail
                exact ⟨RR.out, by simp [intOf]; omega⟩
              · have hjk : j ≤ k := by omega
                have FIN := Lib.hid (show JoOf b l w wo (.slice aV j cV) qs P from ⟨OWN.out, SI.out, back_conn H0.out SI.out (fun i x p hx hp => CH.out i x p (by have := (List.getElem?_eq_some_iff.1 hp).1; omega) hx hp), fun p hp => by have := FEW.out p hp; omega, TH.out, KW.out⟩)
                go_wp2_with fail
                go_ret
                exact ⟨_, qs, P, rfl, FIN.out⟩
end Go.Proofs.YtbnbjiddffihoaaDoor

/- Rosters of at least one node, from the tape. -/
namespace Go.Proofs.YtbnbjiddffihoaaDoor
open Go.RowKit

theorem check_one {x : Nd} (h1 : 1 ≤ x.id) (h2 : x.id ≤ 2147483647) (h3 : x.key.size ≤ 64) (h4 : x.word < 65536) : checkN [x] = 0 := by
  have hb : badN x = false := by
    unfold badN validN
    simp
    omega
  have hd : dupN [x] = false := by
    cases h : dupN [x] with
    | false => rfl
    | true =>
      obtain ⟨i, k, _, _, hki, hi, _⟩ := (dupN_iff _).1 h
      have := (List.getElem?_eq_some_iff.1 hi).1
      simp at this
      omega
  unfold checkN
  simp [hb, hd]
/-- a roster of at least one node -/
def SomeOf (n b : Nat) (w w' : World) (v : Value) (L : List Nd) : Prop := RosterOf n b w w' v L ∧ 1 ≤ L.length
set_option maxRecDepth 100000 in
set_option maxHeartbeats 1000000 in
theorem some_n {b : Nat} (n : Nat) (w : World) (h : TK w b) (hL : LetG w) (hgb : ¬ 0 = b) (hn0 : 1 ≤ n) (hn : n ≤ 60) :
    Calls Tryd.prog 27 #[.pointer (some ⟨b, 0, none⟩), .int .i64 n] w fun e w' => ∃ v L, e = .returned v ∧ SomeOf n b w w' v L := by
  have hbw := h.lt
  go_enter Tryd.func27, Tryd.ntmps27
  go_wp2_with fail
  refine (roster_t n _ h hL hgb hn0 hn).mono ?_
  rintro e w1 ⟨v1, L, rfl, R⟩
  obtain ⟨A1, C1, rfl, _, _, _, _⟩ := R.own.slf (fun _ => rfl)
  have T := R.tape
  have L1 := hL.nxb hgb R.k
  clear h hL
  by_cases h0 : L.length = 0
  · have d0 : ((L.length : Int) == 0) = true := by rw [h0]; rfl
    have kk := R.k
    clear R
    go_wp2_with fail
    refine (next_t (3 * (n : Int)) _ T (by omega) (by omega)).mono ?_
    clear T
    rintro e w2 ⟨d, rfl, r0, r1, T, k2⟩
    replace L1 := L1.nxb hgb k2
    replace kk := kk.nxb k2
    clear k2
    go_wp2_with fail
    refine (key_t _ T L1 hgb).mono ?_
    clear T
    rintro e w3 ⟨s, rfl, hs, T, k2⟩
    replace kk := kk.nxb k2
    clear k2 L1
    go_wp2_with fail
    refine (word_t _ T).mono ?_
    clear T
    rintro e w4 ⟨m, rfl, hm, T, k2⟩
    replace kk := kk.nxb k2
    clear k2
    have kz := kk.size
    go_wp2_with fail
    go_ret
    refine ⟨_, [⟨1 + d, s, m⟩], rfl, ⟨OwnL.lit [⟨1 + d, s, m⟩] (fun _ => rfl) kz (by unfold maxLen; simp) rfl, by simp; omega, check_one (by simp; omega) (by simp; omega) hs hm, by simpa using hm, T.nx (Ex.new _ _), kk.nxb ((Ex.new _ _).b b)⟩, by simp⟩
  · have d0 : ((L.length : Int) == 0) = false := by rw [beq_eq_false_iff_ne]; omega
    have R := Lib.hid R
    go_wp2_with fail
    go_ret
    exact ⟨_, L, rfl, R.out, by omega⟩
end Go.Proofs.YtbnbjiddffihoaaDoor

/- What the law walks of chapter 16 share (printed by gen_l16.py). -/
namespace Go.Proofs.YtbnbjiddffihoaaDoor
open Go.RowKit

theorem round_few {N : List Nd} {P : List Pr} {m M : Nat} (h : FewQ m M P) (hN : N.length ≤ m) : FewQ m M (roundN N P) := by
  intro p hp
  rw [roundN_eq] at hp
  obtain ⟨q, hq, rfl⟩ := List.mem_map.1 hp
  refine ⟨Nat.le_trans (ord_len _ _) hN, ?_⟩
  unfold normalN at hq
  split at hq
  · obtain ⟨x, _, rfl⟩ := List.mem_map.1 hq
    show (peerN P x.id).near.length ≤ M
    unfold peerN
    cases hf : P.find? fun p => p.id == x.id with
    | none => exact Nat.zero_le _
    | some q => exact (h q (List.mem_of_find?_eq_some hf)).2
  · cases hq
theorem few_small {P : List Pr} (h : FewQ 100 200 P) : SmallP P := fun p hp => by have := h p hp; omega
/-- a number in memory of the call's own -/
theorem own_lit1 {e base g : Nat} {w : World} {x : Int} (B : Blk w g [.int .i64 x] e) (hb : base ≤ g) : OwnL 1 encI e base w (.slice (some ⟨g, 0, none⟩) 1 1) [x] :=
  ⟨rfl, .inr ⟨g, 1, #[.int .i64 x], rfl, hb, B, Nat.le_refl _, by unfold maxLen; omega, rfl, rfl⟩⟩
end Go.Proofs.YtbnbjiddffihoaaDoor

/- SameInts of the reference at equal lists. -/
namespace Go.Proofs.YtbnbjiddffihoaaDoor
open Go.RowKit

set_option maxHeartbeats 1000000 in
theorem sameints_x (a1 a2 : Option Addr) (n c1 c2 : Nat) (l : List Int) (w : World) (h1 : Sl 1 encI w a1 n l) (h2 : Sl 1 encI w a2 n l) (hn : n ≤ 1000000) :
    Calls Tryd.prog 24 #[.slice a1 n c1, .slice a2 n c2] w fun e w' => e = .returned (.bool true) ∧ Ex w w' := by
  go_enter Tryd.func24, Tryd.ntmps24
  go_wp2_with fail
  go_loopw [5] (fun i wr => ∃ k : Nat, k ≤ n ∧ i = .int .i64 k ∧ Ex w wr) (fun i _ => n - (intOf i).toNat)
  case atStart => exact ⟨0, by omega, rfl, Ex.refl _⟩
  case round =>
    obtain ⟨k, hk, rfl, kw⟩ := hrel
    obtain ⟨wo, rfl⟩ : ∃ wo : World, wo = wr := ⟨_, rfl⟩
    by_cases hlt : k < n
    · obtain ⟨x1, o1, y, rfl, hx1, hy, hc1⟩ := (h1.nx kw).at hlt
      obtain ⟨x2, o2, y', rfl, hx2, hy', hc2⟩ := (h2.nx kw).at hlt
      obtain rfl : y = y' := Option.some.inj (hy.symm.trans hy')
      have e0 : wo.cell? ⟨x1, o1 + k, none⟩ = some (.int .i64 y) := by simpa using hc1 0 _ rfl
      have f0 : wo.cell? ⟨x2, o2 + k, none⟩ = some (.int .i64 y) := by simpa using hc2 0 _ rfl
      clear hc1 hc2 hy hy' h1 h2
      go_wp2_with fail
      go_quiet (fail)
      go_wp2_with fail
      exact ⟨⟨k + 1, by omega, by go_num, kw.drewN _⟩, by simp [intOf]; omega⟩
    · obtain rfl : k = n := by omega
      clear h1 h2 hk hlt
      go_wp2_with fail
      go_ret
      exact ⟨rfl, kw⟩

end Go.Proofs.YtbnbjiddffihoaaDoor

/- The sanity check of chapter 14 (printed by gen_l14.py). -/
namespace Go.Proofs.YtbnbjiddffihoaaDoor
open Go.RowKit

end Go.Proofs.YtbnbjiddffihoaaDoor

/- The walk over RedundantGaps (printed by gen_l14.py). -/
namespace Go.Proofs.YtbnbjiddffihoaaDoor
open Go.RowKit

end Go.Proofs.YtbnbjiddffihoaaDoor

/- The walk over RedundantSurvives (printed by gen_l14.py). -/
namespace Go.Proofs.YtbnbjiddffihoaaDoor
open Go.RowKit

end Go.Proofs.YtbnbjiddffihoaaDoor

/- The walk over RedundantWidth (printed by gen_l14.py). -/
namespace Go.Proofs.YtbnbjiddffihoaaDoor
open Go.RowKit

def KtRel (n : Nat) (w : World) (i : Value) (wr : World) : Prop := ∃ k : Nat, k ≤ n ∧ i = .int .i64 k ∧ Ex w wr
end Go.Proofs.YtbnbjiddffihoaaDoor

/- Same of the reference of chapter 14, at equal lists. -/
namespace Go.Proofs.YtbnbjiddffihoaaDoor
open Go.RowKit

set_option maxRecDepth 100000 in
set_option maxHeartbeats 16000000 in
theorem same14_r (a : Option Addr) (n c : Nat) (P : List Pr) (a2 : Option Addr) (c2 : Nat) (w : World) (h : PL w a n P) (h2 : PL w a2 n P) (hn : n ≤ 1000) (hP : ∀ p ∈ P, p.known.length ≤ 1000000 ∧ p.near.length ≤ 1000000) :
    Calls Tryd.prog 37 #[.slice a n c, .slice a2 n c2] w fun e w' => e = .returned (.bool true) ∧ Ex w w' := by
  have H1 := Lib.hid h
  have H2 := Lib.hid h2
  have HP := Lib.hid hP
  clear h h2 hP
  go_enter Tryd.func37, Tryd.ntmps37
  go_wp2_with fail
  go_loopw [5] (fun i wr => KtRel n w i wr) (fun i _ => n - (intOf i).toNat)
  case atStart => exact ⟨0, Nat.zero_le _, rfl, Ex.refl _⟩
  case round =>
    obtain ⟨k, hk, rfl, kw⟩ := hrel
    obtain ⟨wi, rfl⟩ : ∃ wi : World, wi = wr := ⟨_, rfl⟩
    have KW := Lib.hid kw
    clear kw
    by_cases hlt : k < n
    · obtain ⟨xp, op, b1, m1, d1, b4, m4, d4, y, rfl, hxp, hy, p0, p1, p2, p3, p4, s1, s4⟩ := (H1.out.nx KW.out).rd hlt
      obtain ⟨xq, oq, e1, u1, f1, e4, u4, f4, y', rfl, hxq, hy', q0, q1, q2, q3, q4, t1, t4⟩ := (H2.out.nx KW.out).rd hlt
      obtain rfl : y = y' := Option.some.inj (hy.symm.trans hy')
      obtain rfl : m1 = u1 := s1.len.symm.trans t1.len
      obtain rfl : m4 = u4 := s4.len.symm.trans t4.len
      have hyP := HP.out y (List.mem_of_getElem? hy)
      have hm1 : m1 ≤ 1000000 := by have := s1.len; omega
      have hm4 : m4 ≤ 1000000 := by have := s4.len; omega
      have A0 := Lib.hid (fun wq (k : Ex wi wq) => Chg.cellv k p0 hxp)
      have A1 := Lib.hid (fun wq (k : Ex wi wq) => Chg.cellv k p1 hxp)
      have A2 := Lib.hid (fun wq (k : Ex wi wq) => Chg.cellv k p2 hxp)
      have A3 := Lib.hid (fun wq (k : Ex wi wq) => Chg.cellv k p3 hxp)
      have A4 := Lib.hid (fun wq (k : Ex wi wq) => Chg.cellv k p4 hxp)
      have B0 := Lib.hid (fun wq (k : Ex wi wq) => Chg.cellv k q0 hxq)
      have B1 := Lib.hid (fun wq (k : Ex wi wq) => Chg.cellv k q1 hxq)
      have B2 := Lib.hid (fun wq (k : Ex wi wq) => Chg.cellv k q2 hxq)
      have B3 := Lib.hid (fun wq (k : Ex wi wq) => Chg.cellv k q3 hxq)
      have B4 := Lib.hid (fun wq (k : Ex wi wq) => Chg.cellv k q4 hxq)
      have S1 := Lib.hid s1
      have S4 := Lib.hid s4
      have T1 := Lib.hid t1
      have T4 := Lib.hid t4
      clear p0 p1 p2 p3 p4 q0 q1 q2 q3 q4 s1 s4 t1 t4 hxp hxq hy hy' hyP
      go_upto_region 6 with fail
      refine wp_region_held_drew (S := Ex wi) (by kernel_rfl) ((Ex.refl wi).drew) (fun hHeld => ?_)
      obtain ⟨wd, hwdx⟩ : ∃ wd : World, wd = World.drew wi := ⟨_, rfl⟩
      rw [← hwdx] at hHeld ⊢
      have hDrew : Ex wi wd := by rw [hwdx]; exact (Ex.refl wi).drew
      clear hwdx
      refine wpAnyH_take (i := 0) (oi := ⟨some 18, .move (.tmp 0), 36, "ref.go:165", #[], none⟩) (v := ?_) rfl (by kernel_rfl) (by kernel_rfl) (by kernel_rfl) (fun _ _ _ h => h) (Or.inl ⟨by rfl, ?hyr1x0q5⟩) (by assumption) ?restr1x0q5
      case hyr1x0q5 => intro wq hSw; (go_simp); (try with_reducible rfl)
      try simp only [Act.put, List.setIfInBounds_toArray, List.set_cons_zero, List.set_cons_succ]
      refine wpAnyH_take (i := 1) (oi := ⟨some 19, .move (.tmp 5), 3, "ref.go:165", #[], none⟩) (v := ?_) rfl (by kernel_rfl) (by kernel_rfl) (by kernel_rfl) (fun _ _ _ h => h) (Or.inl ⟨by rfl, ?hyr1x1q8⟩) (by assumption) ?restr1x1q8
      case hyr1x1q8 => intro wq hSw; (go_simp); (try with_reducible rfl)
      try simp only [Act.put, List.setIfInBounds_toArray, List.set_cons_zero, List.set_cons_succ]
      refine wpAnyH_take (i := 2) (oi := ⟨some 20, .indexAddr 36 (.tmp 18) (.tmp 19), 0, "ref.go:165", #[⟨0, .data⟩, ⟨1, .data⟩], none⟩) (v := ?_) rfl (by kernel_rfl) (by kernel_rfl) (by kernel_rfl) (fun _ _ _ h => h) (Or.inl ⟨by rfl, ?hyr1x2q11⟩) (by assumption) ?restr1x2q11
      case hyr1x2q11 => intro wq hSw; (go_simp); (try with_reducible rfl)
      try simp only [Act.put, List.setIfInBounds_toArray, List.set_cons_zero, List.set_cons_succ]
      refine wpAnyH_take (i := 3) (oi := ⟨some 21, .fieldAddr 41 (.tmp 20) 0, 0, "ref.go:165", #[⟨2, .data⟩], none⟩) (v := ?_) rfl (by kernel_rfl) (by kernel_rfl) (by kernel_rfl) (fun _ _ _ h => h) (Or.inl ⟨by rfl, ?hyr1x3q14⟩) (by assumption) ?restr1x3q14
      case hyr1x3q14 => intro wq hSw; (go_simp); (try with_reducible rfl)
      try simp only [Act.put, List.setIfInBounds_toArray, List.set_cons_zero, List.set_cons_succ]
      refine wpAnyH_take (i := 4) (oi := ⟨some 22, .load 3 (.tmp 21), 3, "ref.go:165", #[⟨3, .data⟩], none⟩) (v := ?_) rfl (by kernel_rfl) (by kernel_rfl) (by kernel_rfl) (fun _ _ _ h => h) (Or.inl ⟨by rfl, ?hyr1x4q17⟩) (by assumption) ?restr1x4q17
      case hyr1x4q17 => intro wq hSw; (have cq := A0.out wq hSw; go_simp); (try with_reducible rfl)
      try simp only [Act.put, List.setIfInBounds_toArray, List.set_cons_zero, List.set_cons_succ]
      refine wpAnyH_take (i := 5) (oi := ⟨some 23, .move (.tmp 1), 36, "ref.go:165", #[], none⟩) (v := ?_) rfl (by kernel_rfl) (by kernel_rfl) (by kernel_rfl) (fun _ _ _ h => h) (Or.inl ⟨by rfl, ?hyr1x5q20⟩) (by assumption) ?restr1x5q20
      case hyr1x5q20 => intro wq hSw; (go_simp); (try with_reducible rfl)
      try simp only [Act.put, List.setIfInBounds_toArray, List.set_cons_zero, List.set_cons_succ]
      refine wpAnyH_take (i := 6) (oi := ⟨some 24, .move (.tmp 5), 3, "ref.go:165", #[], none⟩) (v := ?_) rfl (by kernel_rfl) (by kernel_rfl) (by kernel_rfl) (fun _ _ _ h => h) (Or.inl ⟨by rfl, ?hyr1x6q23⟩) (by assumption) ?restr1x6q23
      case hyr1x6q23 => intro wq hSw; (go_simp); (try with_reducible rfl)
      try simp only [Act.put, List.setIfInBounds_toArray, List.set_cons_zero, List.set_cons_succ]
      refine wpAnyH_take (i := 7) (oi := ⟨some 25, .indexAddr 36 (.tmp 23) (.tmp 24), 0, "ref.go:165", #[⟨5, .data⟩, ⟨6, .data⟩], none⟩) (v := ?_) rfl (by kernel_rfl) (by kernel_rfl) (by kernel_rfl) (fun _ _ _ h => h) (Or.inl ⟨by rfl, ?hyr1x7q26⟩) (by assumption) ?restr1x7q26
      case hyr1x7q26 => intro wq hSw; (go_simp); (try with_reducible rfl)
      try simp only [Act.put, List.setIfInBounds_toArray, List.set_cons_zero, List.set_cons_succ]
      refine wpAnyH_take (i := 8) (oi := ⟨some 26, .fieldAddr 41 (.tmp 25) 0, 0, "ref.go:165", #[⟨7, .data⟩], none⟩) (v := ?_) rfl (by kernel_rfl) (by kernel_rfl) (by kernel_rfl) (fun _ _ _ h => h) (Or.inl ⟨by rfl, ?hyr1x8q29⟩) (by assumption) ?restr1x8q29
      case hyr1x8q29 => intro wq hSw; (go_simp); (try with_reducible rfl)
      try simp only [Act.put, List.setIfInBounds_toArray, List.set_cons_zero, List.set_cons_succ]
      refine wpAnyH_take (i := 9) (oi := ⟨some 27, .load 3 (.tmp 26), 3, "ref.go:165", #[⟨8, .data⟩], none⟩) (v := ?_) rfl (by kernel_rfl) (by kernel_rfl) (by kernel_rfl) (fun _ _ _ h => h) (Or.inl ⟨by rfl, ?hyr1x9q32⟩) (by assumption) ?restr1x9q32
      case hyr1x9q32 => intro wq hSw; (have cq := B0.out wq hSw; go_simp); (try with_reducible rfl)
      try simp only [Act.put, List.setIfInBounds_toArray, List.set_cons_zero, List.set_cons_succ]
      refine wpAnyH_take (i := 10) (oi := ⟨some 28, .binOp .neq 3 (.tmp 22) (.tmp 27) 3, 4, "ref.go:165", #[⟨4, .data⟩, ⟨9, .data⟩], none⟩) (v := ?_) rfl (by kernel_rfl) (by kernel_rfl) (by kernel_rfl) (fun _ _ _ h => h) (Or.inl ⟨by rfl, ?hyr1x10q35⟩) (by assumption) ?restr1x10q35
      case hyr1x10q35 => intro wq hSw; (go_simp); (try with_reducible rfl)
      try simp only [Act.put, List.setIfInBounds_toArray, List.set_cons_zero, List.set_cons_succ]
      refine wpAnyH_take (i := 11) (oi := ⟨some 29, .move (.tmp 28), 4, "ref.go:165", #[⟨10, .data⟩], none⟩) (v := ?_) rfl (by kernel_rfl) (by kernel_rfl) (by kernel_rfl) (fun _ _ _ h => h) (Or.inl ⟨by rfl, ?hyr1x11q38⟩) (by assumption) ?restr1x11q38
      case hyr1x11q38 => intro wq hSw; (go_simp); (try with_reducible rfl)
      try simp only [Act.put, List.setIfInBounds_toArray, List.set_cons_zero, List.set_cons_succ]
      refine wpAnyH_take (i := 12) (oi := ⟨some 30, .move (.tmp 0), 36, "ref.go:165", #[⟨11, .guard⟩], some (11, false)⟩) (v := ?_) rfl (by kernel_rfl) (by kernel_rfl) (by kernel_rfl) (fun _ _ _ h => h) (Or.inl ⟨by rfl, ?hyr1x12q41⟩) (by assumption) ?restr1x12q41
      case hyr1x12q41 => intro wq hSw; (go_simp); (try with_reducible rfl)
      try simp only [Act.put, List.setIfInBounds_toArray, List.set_cons_zero, List.set_cons_succ]
      refine wpAnyH_take (i := 13) (oi := ⟨some 31, .move (.tmp 5), 3, "ref.go:165", #[⟨11, .guard⟩], some (11, false)⟩) (v := ?_) rfl (by kernel_rfl) (by kernel_rfl) (by kernel_rfl) (fun _ _ _ h => h) (Or.inl ⟨by rfl, ?hyr1x13q44⟩) (by assumption) ?restr1x13q44
      case hyr1x13q44 => intro wq hSw; (go_simp); (try with_reducible rfl)
      try simp only [Act.put, List.setIfInBounds_toArray, List.set_cons_zero, List.set_cons_succ]
      refine wpAnyH_take (i := 14) (oi := ⟨some 32, .indexAddr 36 (.tmp 30) (.tmp 31), 0, "ref.go:165", #[⟨12, .data⟩, ⟨13, .data⟩, ⟨11, .guard⟩], some (11, false)⟩) (v := ?_) rfl (by kernel_rfl) (by kernel_rfl) (by kernel_rfl) (fun _ _ _ h => h) (Or.inl ⟨by rfl, ?hyr1x14q47⟩) (by assumption) ?restr1x14q47
      case hyr1x14q47 => intro wq hSw; (go_simp); (try with_reducible rfl)
      try simp only [Act.put, List.setIfInBounds_toArray, List.set_cons_zero, List.set_cons_succ]
      refine wpAnyH_take (i := 15) (oi := ⟨some 33, .fieldAddr 41 (.tmp 32) 2, 0, "ref.go:165", #[⟨14, .data⟩, ⟨11, .guard⟩], some (11, false)⟩) (v := ?_) rfl (by kernel_rfl) (by kernel_rfl) (by kernel_rfl) (fun _ _ _ h => h) (Or.inl ⟨by rfl, ?hyr1x15q50⟩) (by assumption) ?restr1x15q50
      case hyr1x15q50 => intro wq hSw; (go_simp); (try with_reducible rfl)
      try simp only [Act.put, List.setIfInBounds_toArray, List.set_cons_zero, List.set_cons_succ]
      refine wpAnyH_take (i := 16) (oi := ⟨some 34, .load 3 (.tmp 33), 3, "ref.go:165", #[⟨15, .data⟩, ⟨11, .guard⟩], some (11, false)⟩) (v := ?_) rfl (by kernel_rfl) (by kernel_rfl) (by kernel_rfl) (fun _ _ _ h => h) (Or.inl ⟨by rfl, ?hyr1x16q53⟩) (by assumption) ?restr1x16q53
      case hyr1x16q53 => intro wq hSw; (have cq := A2.out wq hSw; go_simp); (try with_reducible rfl)
      try simp only [Act.put, List.setIfInBounds_toArray, List.set_cons_zero, List.set_cons_succ]
      refine wpAnyH_take (i := 17) (oi := ⟨some 35, .move (.tmp 1), 36, "ref.go:165", #[⟨11, .guard⟩], some (11, false)⟩) (v := ?_) rfl (by kernel_rfl) (by kernel_rfl) (by kernel_rfl) (fun _ _ _ h => h) (Or.inl ⟨by rfl, ?hyr1x17q56⟩) (by assumption) ?restr1x17q56
      case hyr1x17q56 => intro wq hSw; (go_simp); (try with_reducible rfl)
      try simp only [Act.put, List.setIfInBounds_toArray, List.set_cons_zero, List.set_cons_succ]
      refine wpAnyH_take (i := 18) (oi := ⟨some 36, .move (.tmp 5), 3, "ref.go:165", #[⟨11, .guard⟩], some (11, false)⟩) (v := ?_) rfl (by kernel_rfl) (by kernel_rfl) (by kernel_rfl) (fun _ _ _ h => h) (Or.inl ⟨by rfl, ?hyr1x18q59⟩) (by assumption) ?restr1x18q59
      case hyr1x18q59 => intro wq hSw; (go_simp); (try with_reducible rfl)
      try simp only [Act.put, List.setIfInBounds_toArray, List.set_cons_zero, List.set_cons_succ]
      refine wpAnyH_take (i := 19) (oi := ⟨some 37, .indexAddr 36 (.tmp 35) (.tmp 36), 0, "ref.go:165", #[⟨17, .data⟩, ⟨18, .data⟩, ⟨11, .guard⟩], some (11, false)⟩) (v := ?_) rfl (by kernel_rfl) (by kernel_rfl) (by kernel_rfl) (fun _ _ _ h => h) (Or.inl ⟨by rfl, ?hyr1x19q62⟩) (by assumption) ?restr1x19q62
      case hyr1x19q62 => intro wq hSw; (go_simp); (try with_reducible rfl)
      try simp only [Act.put, List.setIfInBounds_toArray, List.set_cons_zero, List.set_cons_succ]
      refine wpAnyH_take (i := 20) (oi := ⟨some 38, .fieldAddr 41 (.tmp 37) 2, 0, "ref.go:165", #[⟨19, .data⟩, ⟨11, .guard⟩], some (11, false)⟩) (v := ?_) rfl (by kernel_rfl) (by kernel_rfl) (by kernel_rfl) (fun _ _ _ h => h) (Or.inl ⟨by rfl, ?hyr1x20q65⟩) (by assumption) ?restr1x20q65
      case hyr1x20q65 => intro wq hSw; (go_simp); (try with_reducible rfl)
      try simp only [Act.put, List.setIfInBounds_toArray, List.set_cons_zero, List.set_cons_succ]
      refine wpAnyH_take (i := 21) (oi := ⟨some 39, .load 3 (.tmp 38), 3, "ref.go:165", #[⟨20, .data⟩, ⟨11, .guard⟩], some (11, false)⟩) (v := ?_) rfl (by kernel_rfl) (by kernel_rfl) (by kernel_rfl) (fun _ _ _ h => h) (Or.inl ⟨by rfl, ?hyr1x21q68⟩) (by assumption) ?restr1x21q68
      case hyr1x21q68 => intro wq hSw; (have cq := B2.out wq hSw; go_simp); (try with_reducible rfl)
      try simp only [Act.put, List.setIfInBounds_toArray, List.set_cons_zero, List.set_cons_succ]
      refine wpAnyH_take (i := 22) (oi := ⟨some 40, .binOp .neq 3 (.tmp 34) (.tmp 39) 3, 4, "ref.go:165", #[⟨16, .data⟩, ⟨21, .data⟩, ⟨11, .guard⟩], some (11, false)⟩) (v := ?_) rfl (by kernel_rfl) (by kernel_rfl) (by kernel_rfl) (fun _ _ _ h => h) (Or.inl ⟨by rfl, ?hyr1x22q71⟩) (by assumption) ?restr1x22q71
      case hyr1x22q71 => intro wq hSw; (go_simp); (try with_reducible rfl)
      try simp only [Act.put, List.setIfInBounds_toArray, List.set_cons_zero, List.set_cons_succ]
      refine wpAnyH_take (i := 23) (oi := ⟨some 41, .pick (.tmp 29) (.const (.bool true)) (.tmp 40), 4, "ref.go:165", #[⟨11, .data⟩, ⟨22, .data⟩], none⟩) (v := ?_) rfl (by kernel_rfl) (by kernel_rfl) (by kernel_rfl) (fun _ _ _ h => h) (Or.inl ⟨by rfl, ?hyr1x23q74⟩) (by assumption) ?restr1x23q74
      case hyr1x23q74 => intro wq hSw; (go_simp); (try with_reducible rfl)
      try simp only [Act.put, List.setIfInBounds_toArray, List.set_cons_zero, List.set_cons_succ]
      refine wpAnyH_take (i := 24) (oi := ⟨some 42, .move (.tmp 41), 4, "ref.go:165", #[⟨23, .data⟩, ⟨11, .chain⟩], none⟩) (v := ?_) rfl (by kernel_rfl) (by kernel_rfl) (by kernel_rfl) (fun _ _ _ h => h) (Or.inl ⟨by rfl, ?hyr1x24q77⟩) (by assumption) ?restr1x24q77
      case hyr1x24q77 => intro wq hSw; (go_simp); (try with_reducible rfl)
      try simp only [Act.put, List.setIfInBounds_toArray, List.set_cons_zero, List.set_cons_succ]
      refine wpAnyH_take (i := 25) (oi := ⟨some 43, .move (.tmp 0), 36, "ref.go:165", #[⟨24, .guard⟩], some (24, false)⟩) (v := ?_) rfl (by kernel_rfl) (by kernel_rfl) (by kernel_rfl) (fun _ _ _ h => h) (Or.inl ⟨by rfl, ?hyr1x25q80⟩) (by assumption) ?restr1x25q80
      case hyr1x25q80 => intro wq hSw; (go_simp); (try with_reducible rfl)
      try simp only [Act.put, List.setIfInBounds_toArray, List.set_cons_zero, List.set_cons_succ]
      refine wpAnyH_take (i := 26) (oi := ⟨some 44, .move (.tmp 5), 3, "ref.go:165", #[⟨24, .guard⟩], some (24, false)⟩) (v := ?_) rfl (by kernel_rfl) (by kernel_rfl) (by kernel_rfl) (fun _ _ _ h => h) (Or.inl ⟨by rfl, ?hyr1x26q83⟩) (by assumption) ?restr1x26q83
      case hyr1x26q83 => intro wq hSw; (go_simp); (try with_reducible rfl)
      try simp only [Act.put, List.setIfInBounds_toArray, List.set_cons_zero, List.set_cons_succ]
      refine wpAnyH_take (i := 27) (oi := ⟨some 45, .indexAddr 36 (.tmp 43) (.tmp 44), 0, "ref.go:165", #[⟨25, .data⟩, ⟨26, .data⟩, ⟨24, .guard⟩], some (24, false)⟩) (v := ?_) rfl (by kernel_rfl) (by kernel_rfl) (by kernel_rfl) (fun _ _ _ h => h) (Or.inl ⟨by rfl, ?hyr1x27q86⟩) (by assumption) ?restr1x27q86
      case hyr1x27q86 => intro wq hSw; (go_simp); (try with_reducible rfl)
      try simp only [Act.put, List.setIfInBounds_toArray, List.set_cons_zero, List.set_cons_succ]
      refine wpAnyH_take (i := 28) (oi := ⟨some 46, .fieldAddr 41 (.tmp 45) 3, 0, "ref.go:165", #[⟨27, .data⟩, ⟨24, .guard⟩], some (24, false)⟩) (v := ?_) rfl (by kernel_rfl) (by kernel_rfl) (by kernel_rfl) (fun _ _ _ h => h) (Or.inl ⟨by rfl, ?hyr1x28q89⟩) (by assumption) ?restr1x28q89
      case hyr1x28q89 => intro wq hSw; (go_simp); (try with_reducible rfl)
      try simp only [Act.put, List.setIfInBounds_toArray, List.set_cons_zero, List.set_cons_succ]
      refine wpAnyH_take (i := 29) (oi := ⟨some 47, .load 3 (.tmp 46), 3, "ref.go:165", #[⟨28, .data⟩, ⟨24, .guard⟩], some (24, false)⟩) (v := ?_) rfl (by kernel_rfl) (by kernel_rfl) (by kernel_rfl) (fun _ _ _ h => h) (Or.inl ⟨by rfl, ?hyr1x29q92⟩) (by assumption) ?restr1x29q92
      case hyr1x29q92 => intro wq hSw; (have cq := A3.out wq hSw; go_simp); (try with_reducible rfl)
      try simp only [Act.put, List.setIfInBounds_toArray, List.set_cons_zero, List.set_cons_succ]
      refine wpAnyH_take (i := 30) (oi := ⟨some 48, .move (.tmp 1), 36, "ref.go:165", #[⟨24, .guard⟩], some (24, false)⟩) (v := ?_) rfl (by kernel_rfl) (by kernel_rfl) (by kernel_rfl) (fun _ _ _ h => h) (Or.inl ⟨by rfl, ?hyr1x30q95⟩) (by assumption) ?restr1x30q95
      case hyr1x30q95 => intro wq hSw; (go_simp); (try with_reducible rfl)
      try simp only [Act.put, List.setIfInBounds_toArray, List.set_cons_zero, List.set_cons_succ]
      refine wpAnyH_take (i := 31) (oi := ⟨some 49, .move (.tmp 5), 3, "ref.go:165", #[⟨24, .guard⟩], some (24, false)⟩) (v := ?_) rfl (by kernel_rfl) (by kernel_rfl) (by kernel_rfl) (fun _ _ _ h => h) (Or.inl ⟨by rfl, ?hyr1x31q98⟩) (by assumption) ?restr1x31q98
      case hyr1x31q98 => intro wq hSw; (go_simp); (try with_reducible rfl)
      try simp only [Act.put, List.setIfInBounds_toArray, List.set_cons_zero, List.set_cons_succ]
      refine wpAnyH_take (i := 32) (oi := ⟨some 50, .indexAddr 36 (.tmp 48) (.tmp 49), 0, "ref.go:165", #[⟨30, .data⟩, ⟨31, .data⟩, ⟨24, .guard⟩], some (24, false)⟩) (v := ?_) rfl (by kernel_rfl) (by kernel_rfl) (by kernel_rfl) (fun _ _ _ h => h) (Or.inl ⟨by rfl, ?hyr1x32q101⟩) (by assumption) ?restr1x32q101
      case hyr1x32q101 => intro wq hSw; (go_simp); (try with_reducible rfl)
      try simp only [Act.put, List.setIfInBounds_toArray, List.set_cons_zero, List.set_cons_succ]
      refine wpAnyH_take (i := 33) (oi := ⟨some 51, .fieldAddr 41 (.tmp 50) 3, 0, "ref.go:165", #[⟨32, .data⟩, ⟨24, .guard⟩], some (24, false)⟩) (v := ?_) rfl (by kernel_rfl) (by kernel_rfl) (by kernel_rfl) (fun _ _ _ h => h) (Or.inl ⟨by rfl, ?hyr1x33q104⟩) (by assumption) ?restr1x33q104
      case hyr1x33q104 => intro wq hSw; (go_simp); (try with_reducible rfl)
      try simp only [Act.put, List.setIfInBounds_toArray, List.set_cons_zero, List.set_cons_succ]
      refine wpAnyH_take (i := 34) (oi := ⟨some 52, .load 3 (.tmp 51), 3, "ref.go:165", #[⟨33, .data⟩, ⟨24, .guard⟩], some (24, false)⟩) (v := ?_) rfl (by kernel_rfl) (by kernel_rfl) (by kernel_rfl) (fun _ _ _ h => h) (Or.inl ⟨by rfl, ?hyr1x34q107⟩) (by assumption) ?restr1x34q107
      case hyr1x34q107 => intro wq hSw; (have cq := B3.out wq hSw; go_simp); (try with_reducible rfl)
      try simp only [Act.put, List.setIfInBounds_toArray, List.set_cons_zero, List.set_cons_succ]
      refine wpAnyH_take (i := 35) (oi := ⟨some 53, .binOp .neq 3 (.tmp 47) (.tmp 52) 3, 4, "ref.go:165", #[⟨29, .data⟩, ⟨34, .data⟩, ⟨24, .guard⟩], some (24, false)⟩) (v := ?_) rfl (by kernel_rfl) (by kernel_rfl) (by kernel_rfl) (fun _ _ _ h => h) (Or.inl ⟨by rfl, ?hyr1x35q110⟩) (by assumption) ?restr1x35q110
      case hyr1x35q110 => intro wq hSw; (go_simp); (try with_reducible rfl)
      try simp only [Act.put, List.setIfInBounds_toArray, List.set_cons_zero, List.set_cons_succ]
      refine wpAnyH_take (i := 36) (oi := ⟨some 54, .pick (.tmp 42) (.const (.bool true)) (.tmp 53), 4, "ref.go:165", #[⟨24, .data⟩, ⟨35, .data⟩], none⟩) (v := ?_) rfl (by kernel_rfl) (by kernel_rfl) (by kernel_rfl) (fun _ _ _ h => h) (Or.inl ⟨by rfl, ?hyr1x36q113⟩) (by assumption) ?restr1x36q113
      case hyr1x36q113 => intro wq hSw; (go_simp); (try with_reducible rfl)
      try simp only [Act.put, List.setIfInBounds_toArray, List.set_cons_zero, List.set_cons_succ]
      refine wpAnyH_take (i := 37) (oi := ⟨some 55, .move (.tmp 54), 4, "ref.go:165", #[⟨36, .data⟩, ⟨24, .chain⟩], none⟩) (v := ?_) rfl (by kernel_rfl) (by kernel_rfl) (by kernel_rfl) (fun _ _ _ h => h) (Or.inl ⟨by rfl, ?hyr1x37q116⟩) (by assumption) ?restr1x37q116
      case hyr1x37q116 => intro wq hSw; (go_simp); (try with_reducible rfl)
      try simp only [Act.put, List.setIfInBounds_toArray, List.set_cons_zero, List.set_cons_succ]
      refine wpAnyH_take (i := 38) (oi := ⟨some 56, .move (.tmp 0), 36, "ref.go:165", #[⟨37, .guard⟩], some (37, false)⟩) (v := ?_) rfl (by kernel_rfl) (by kernel_rfl) (by kernel_rfl) (fun _ _ _ h => h) (Or.inl ⟨by rfl, ?hyr1x38q119⟩) (by assumption) ?restr1x38q119
      case hyr1x38q119 => intro wq hSw; (go_simp); (try with_reducible rfl)
      try simp only [Act.put, List.setIfInBounds_toArray, List.set_cons_zero, List.set_cons_succ]
      refine wpAnyH_take (i := 39) (oi := ⟨some 57, .move (.tmp 5), 3, "ref.go:165", #[⟨37, .guard⟩], some (37, false)⟩) (v := ?_) rfl (by kernel_rfl) (by kernel_rfl) (by kernel_rfl) (fun _ _ _ h => h) (Or.inl ⟨by rfl, ?hyr1x39q122⟩) (by assumption) ?restr1x39q122
      case hyr1x39q122 => intro wq hSw; (go_simp); (try with_reducible rfl)
      try simp only [Act.put, List.setIfInBounds_toArray, List.set_cons_zero, List.set_cons_succ]
      refine wpAnyH_take (i := 40) (oi := ⟨some 58, .indexAddr 36 (.tmp 56) (.tmp 57), 0, "ref.go:165", #[⟨38, .data⟩, ⟨39, .data⟩, ⟨37, .guard⟩], some (37, false)⟩) (v := ?_) rfl (by kernel_rfl) (by kernel_rfl) (by kernel_rfl) (fun _ _ _ h => h) (Or.inl ⟨by rfl, ?hyr1x40q125⟩) (by assumption) ?restr1x40q125
      case hyr1x40q125 => intro wq hSw; (go_simp); (try with_reducible rfl)
      try simp only [Act.put, List.setIfInBounds_toArray, List.set_cons_zero, List.set_cons_succ]
      refine wpAnyH_take (i := 41) (oi := ⟨some 59, .fieldAddr 41 (.tmp 58) 1, 0, "ref.go:165", #[⟨40, .data⟩, ⟨37, .guard⟩], some (37, false)⟩) (v := ?_) rfl (by kernel_rfl) (by kernel_rfl) (by kernel_rfl) (fun _ _ _ h => h) (Or.inl ⟨by rfl, ?hyr1x41q128⟩) (by assumption) ?restr1x41q128
      case hyr1x41q128 => intro wq hSw; (go_simp); (try with_reducible rfl)
      try simp only [Act.put, List.setIfInBounds_toArray, List.set_cons_zero, List.set_cons_succ]
      refine wpAnyH_take (i := 42) (oi := ⟨some 60, .load 22 (.tmp 59), 22, "ref.go:165", #[⟨41, .data⟩, ⟨37, .guard⟩], some (37, false)⟩) (v := ?_) rfl (by kernel_rfl) (by kernel_rfl) (by kernel_rfl) (fun _ _ _ h => h) (Or.inl ⟨by rfl, ?hyr1x42q131⟩) (by assumption) ?restr1x42q131
      case hyr1x42q131 => intro wq hSw; (have cq := A1.out wq hSw; go_simp); (try with_reducible rfl)
      try simp only [Act.put, List.setIfInBounds_toArray, List.set_cons_zero, List.set_cons_succ]
      refine wpAnyH_take (i := 43) (oi := ⟨some 61, .move (.tmp 1), 36, "ref.go:165", #[⟨37, .guard⟩], some (37, false)⟩) (v := ?_) rfl (by kernel_rfl) (by kernel_rfl) (by kernel_rfl) (fun _ _ _ h => h) (Or.inl ⟨by rfl, ?hyr1x43q134⟩) (by assumption) ?restr1x43q134
      case hyr1x43q134 => intro wq hSw; (go_simp); (try with_reducible rfl)
      try simp only [Act.put, List.setIfInBounds_toArray, List.set_cons_zero, List.set_cons_succ]
      refine wpAnyH_take (i := 44) (oi := ⟨some 62, .move (.tmp 5), 3, "ref.go:165", #[⟨37, .guard⟩], some (37, false)⟩) (v := ?_) rfl (by kernel_rfl) (by kernel_rfl) (by kernel_rfl) (fun _ _ _ h => h) (Or.inl ⟨by rfl, ?hyr1x44q137⟩) (by assumption) ?restr1x44q137
      case hyr1x44q137 => intro wq hSw; (go_simp); (try with_reducible rfl)
      try simp only [Act.put, List.setIfInBounds_toArray, List.set_cons_zero, List.set_cons_succ]
      refine wpAnyH_take (i := 45) (oi := ⟨some 63, .indexAddr 36 (.tmp 61) (.tmp 62), 0, "ref.go:165", #[⟨43, .data⟩, ⟨44, .data⟩, ⟨37, .guard⟩], some (37, false)⟩) (v := ?_) rfl (by kernel_rfl) (by kernel_rfl) (by kernel_rfl) (fun _ _ _ h => h) (Or.inl ⟨by rfl, ?hyr1x45q140⟩) (by assumption) ?restr1x45q140
      case hyr1x45q140 => intro wq hSw; (go_simp); (try with_reducible rfl)
      try simp only [Act.put, List.setIfInBounds_toArray, List.set_cons_zero, List.set_cons_succ]
      refine wpAnyH_take (i := 46) (oi := ⟨some 64, .fieldAddr 41 (.tmp 63) 1, 0, "ref.go:165", #[⟨45, .data⟩, ⟨37, .guard⟩], some (37, false)⟩) (v := ?_) rfl (by kernel_rfl) (by kernel_rfl) (by kernel_rfl) (fun _ _ _ h => h) (Or.inl ⟨by rfl, ?hyr1x46q143⟩) (by assumption) ?restr1x46q143
      case hyr1x46q143 => intro wq hSw; (go_simp); (try with_reducible rfl)
      try simp only [Act.put, List.setIfInBounds_toArray, List.set_cons_zero, List.set_cons_succ]
      refine wpAnyH_take (i := 47) (oi := ⟨some 65, .load 22 (.tmp 64), 22, "ref.go:165", #[⟨46, .data⟩, ⟨37, .guard⟩], some (37, false)⟩) (v := ?_) rfl (by kernel_rfl) (by kernel_rfl) (by kernel_rfl) (fun _ _ _ h => h) (Or.inl ⟨by rfl, ?hyr1x47q146⟩) (by assumption) ?restr1x47q146
      case hyr1x47q146 => intro wq hSw; (have cq := B1.out wq hSw; go_simp); (try with_reducible rfl)
      try simp only [Act.put, List.setIfInBounds_toArray, List.set_cons_zero, List.set_cons_succ]
      refine wpAnyH_ready (rs := [48]) (by kernel_rfl) (by simp) ?_
      refine AllReadyH.cons (o := ⟨some 66, .call { callee := .value (.func 24), args := #[.tmp 60, .tmp 65], argTypes := #[22, 22] }, 4, "ref.go:165", #[⟨42, .data⟩, ⟨47, .data⟩, ⟨37, .chain⟩, ⟨37, .guard⟩], some (37, false)⟩) rfl (fun K hK => ?_) AllReadyH.nil
      go_simp
      (with_reducible refine (sameints_x _ _ _ _ _ y.known _ (S1.out.nx hHeld) (T1.out.nx hHeld) (by omega)).mono ?_)
      rintro e wb ⟨rfl, kk⟩
      replace hHeld := hHeld.nx kk
      clear kk
      refine hK.out _ _ (hHeld) (fun hHeld => ?_)
      clear hK K
      try simp only [Act.put, List.setIfInBounds_toArray, List.set_cons_zero, List.set_cons_succ]
      refine wpAnyH_take (i := 49) (oi := ⟨some 67, .unOp .not 4 (.tmp 66), 4, "ref.go:165", #[⟨48, .data⟩, ⟨37, .guard⟩], some (37, false)⟩) (v := ?_) rfl (by kernel_rfl) (by kernel_rfl) (by kernel_rfl) (fun _ _ _ h => h) (Or.inl ⟨by rfl, ?hyr1x49q159⟩) (by assumption) ?restr1x49q159
      case hyr1x49q159 => intro wq hSw; (go_simp); (try with_reducible rfl)
      try simp only [Act.put, List.setIfInBounds_toArray, List.set_cons_zero, List.set_cons_succ]
      refine wpAnyH_take (i := 50) (oi := ⟨some 68, .pick (.tmp 55) (.const (.bool true)) (.tmp 67), 4, "ref.go:165", #[⟨37, .data⟩, ⟨49, .data⟩], none⟩) (v := ?_) rfl (by kernel_rfl) (by kernel_rfl) (by kernel_rfl) (fun _ _ _ h => h) (Or.inl ⟨by rfl, ?hyr1x50q162⟩) (by assumption) ?restr1x50q162
      case hyr1x50q162 => intro wq hSw; (go_simp); (try with_reducible rfl)
      try simp only [Act.put, List.setIfInBounds_toArray, List.set_cons_zero, List.set_cons_succ]
      refine wpAnyH_take (i := 51) (oi := ⟨some 69, .move (.tmp 68), 4, "ref.go:165", #[⟨50, .data⟩, ⟨48, .chain⟩], none⟩) (v := ?_) rfl (by kernel_rfl) (by kernel_rfl) (by kernel_rfl) (fun _ _ _ h => h) (Or.inl ⟨by rfl, ?hyr1x51q165⟩) (by assumption) ?restr1x51q165
      case hyr1x51q165 => intro wq hSw; (go_simp); (try with_reducible rfl)
      try simp only [Act.put, List.setIfInBounds_toArray, List.set_cons_zero, List.set_cons_succ]
      refine wpAnyH_take (i := 52) (oi := ⟨some 70, .move (.tmp 0), 36, "ref.go:165", #[⟨51, .guard⟩], some (51, false)⟩) (v := ?_) rfl (by kernel_rfl) (by kernel_rfl) (by kernel_rfl) (fun _ _ _ h => h) (Or.inl ⟨by rfl, ?hyr1x52q168⟩) (by assumption) ?restr1x52q168
      case hyr1x52q168 => intro wq hSw; (go_simp); (try with_reducible rfl)
      try simp only [Act.put, List.setIfInBounds_toArray, List.set_cons_zero, List.set_cons_succ]
      refine wpAnyH_take (i := 53) (oi := ⟨some 71, .move (.tmp 5), 3, "ref.go:165", #[⟨51, .guard⟩], some (51, false)⟩) (v := ?_) rfl (by kernel_rfl) (by kernel_rfl) (by kernel_rfl) (fun _ _ _ h => h) (Or.inl ⟨by rfl, ?hyr1x53q171⟩) (by assumption) ?restr1x53q171
      case hyr1x53q171 => intro wq hSw; (go_simp); (try with_reducible rfl)
      try simp only [Act.put, List.setIfInBounds_toArray, List.set_cons_zero, List.set_cons_succ]
      refine wpAnyH_take (i := 54) (oi := ⟨some 72, .indexAddr 36 (.tmp 70) (.tmp 71), 0, "ref.go:165", #[⟨52, .data⟩, ⟨53, .data⟩, ⟨51, .guard⟩], some (51, false)⟩) (v := ?_) rfl (by kernel_rfl) (by kernel_rfl) (by kernel_rfl) (fun _ _ _ h => h) (Or.inl ⟨by rfl, ?hyr1x54q174⟩) (by assumption) ?restr1x54q174
      case hyr1x54q174 => intro wq hSw; (go_simp); (try with_reducible rfl)
      try simp only [Act.put, List.setIfInBounds_toArray, List.set_cons_zero, List.set_cons_succ]
      refine wpAnyH_take (i := 55) (oi := ⟨some 73, .fieldAddr 41 (.tmp 72) 4, 0, "ref.go:165", #[⟨54, .data⟩, ⟨51, .guard⟩], some (51, false)⟩) (v := ?_) rfl (by kernel_rfl) (by kernel_rfl) (by kernel_rfl) (fun _ _ _ h => h) (Or.inl ⟨by rfl, ?hyr1x55q177⟩) (by assumption) ?restr1x55q177
      case hyr1x55q177 => intro wq hSw; (go_simp); (try with_reducible rfl)
      try simp only [Act.put, List.setIfInBounds_toArray, List.set_cons_zero, List.set_cons_succ]
      refine wpAnyH_take (i := 56) (oi := ⟨some 74, .load 39 (.tmp 73), 39, "ref.go:165", #[⟨55, .data⟩, ⟨51, .guard⟩], some (51, false)⟩) (v := ?_) rfl (by kernel_rfl) (by kernel_rfl) (by kernel_rfl) (fun _ _ _ h => h) (Or.inl ⟨by rfl, ?hyr1x56q180⟩) (by assumption) ?restr1x56q180
      case hyr1x56q180 => intro wq hSw; (have cq := A4.out wq hSw; go_simp); (try with_reducible rfl)
      try simp only [Act.put, List.setIfInBounds_toArray, List.set_cons_zero, List.set_cons_succ]
      refine wpAnyH_take (i := 57) (oi := ⟨some 75, .call { callee := .builtin .len, args := #[.tmp 74], argTypes := #[39] }, 3, "ref.go:165", #[⟨56, .data⟩, ⟨51, .guard⟩], some (51, false)⟩) (v := ?_) rfl (by kernel_rfl) (by kernel_rfl) (by kernel_rfl) (fun _ _ _ h => h) (Or.inl ⟨by rfl, ?hyr1x57q183⟩) (by assumption) ?restr1x57q183
      case hyr1x57q183 => intro wq hSw; (go_simp); (try with_reducible rfl)
      try simp only [Act.put, List.setIfInBounds_toArray, List.set_cons_zero, List.set_cons_succ]
      refine wpAnyH_take (i := 58) (oi := ⟨some 76, .move (.tmp 1), 36, "ref.go:165", #[⟨51, .guard⟩], some (51, false)⟩) (v := ?_) rfl (by kernel_rfl) (by kernel_rfl) (by kernel_rfl) (fun _ _ _ h => h) (Or.inl ⟨by rfl, ?hyr1x58q186⟩) (by assumption) ?restr1x58q186
      case hyr1x58q186 => intro wq hSw; (go_simp); (try with_reducible rfl)
      try simp only [Act.put, List.setIfInBounds_toArray, List.set_cons_zero, List.set_cons_succ]
      refine wpAnyH_take (i := 59) (oi := ⟨some 77, .move (.tmp 5), 3, "ref.go:165", #[⟨51, .guard⟩], some (51, false)⟩) (v := ?_) rfl (by kernel_rfl) (by kernel_rfl) (by kernel_rfl) (fun _ _ _ h => h) (Or.inl ⟨by rfl, ?hyr1x59q189⟩) (by assumption) ?restr1x59q189
      case hyr1x59q189 => intro wq hSw; (go_simp); (try with_reducible rfl)
      try simp only [Act.put, List.setIfInBounds_toArray, List.set_cons_zero, List.set_cons_succ]
      refine wpAnyH_take (i := 60) (oi := ⟨some 78, .indexAddr 36 (.tmp 76) (.tmp 77), 0, "ref.go:165", #[⟨58, .data⟩, ⟨59, .data⟩, ⟨51, .guard⟩], some (51, false)⟩) (v := ?_) rfl (by kernel_rfl) (by kernel_rfl) (by kernel_rfl) (fun _ _ _ h => h) (Or.inl ⟨by rfl, ?hyr1x60q192⟩) (by assumption) ?restr1x60q192
      case hyr1x60q192 => intro wq hSw; (go_simp); (try with_reducible rfl)
      try simp only [Act.put, List.setIfInBounds_toArray, List.set_cons_zero, List.set_cons_succ]
      refine wpAnyH_take (i := 61) (oi := ⟨some 79, .fieldAddr 41 (.tmp 78) 4, 0, "ref.go:165", #[⟨60, .data⟩, ⟨51, .guard⟩], some (51, false)⟩) (v := ?_) rfl (by kernel_rfl) (by kernel_rfl) (by kernel_rfl) (fun _ _ _ h => h) (Or.inl ⟨by rfl, ?hyr1x61q195⟩) (by assumption) ?restr1x61q195
      case hyr1x61q195 => intro wq hSw; (go_simp); (try with_reducible rfl)
      try simp only [Act.put, List.setIfInBounds_toArray, List.set_cons_zero, List.set_cons_succ]
      refine wpAnyH_take (i := 62) (oi := ⟨some 80, .load 39 (.tmp 79), 39, "ref.go:165", #[⟨61, .data⟩, ⟨51, .guard⟩], some (51, false)⟩) (v := ?_) rfl (by kernel_rfl) (by kernel_rfl) (by kernel_rfl) (fun _ _ _ h => h) (Or.inl ⟨by rfl, ?hyr1x62q198⟩) (by assumption) ?restr1x62q198
      case hyr1x62q198 => intro wq hSw; (have cq := B4.out wq hSw; go_simp); (try with_reducible rfl)
      try simp only [Act.put, List.setIfInBounds_toArray, List.set_cons_zero, List.set_cons_succ]
      refine wpAnyH_take (i := 63) (oi := ⟨some 81, .call { callee := .builtin .len, args := #[.tmp 80], argTypes := #[39] }, 3, "ref.go:165", #[⟨62, .data⟩, ⟨51, .guard⟩], some (51, false)⟩) (v := ?_) rfl (by kernel_rfl) (by kernel_rfl) (by kernel_rfl) (fun _ _ _ h => h) (Or.inl ⟨by rfl, ?hyr1x63q201⟩) (by assumption) ?restr1x63q201
      case hyr1x63q201 => intro wq hSw; (go_simp); (try with_reducible rfl)
      try simp only [Act.put, List.setIfInBounds_toArray, List.set_cons_zero, List.set_cons_succ]
      refine wpAnyH_take (i := 64) (oi := ⟨some 82, .binOp .neq 3 (.tmp 75) (.tmp 81) 3, 4, "ref.go:165", #[⟨57, .data⟩, ⟨63, .data⟩, ⟨51, .guard⟩], some (51, false)⟩) (v := ?_) rfl (by kernel_rfl) (by kernel_rfl) (by kernel_rfl) (fun _ _ _ h => h) (Or.inl ⟨by rfl, ?hyr1x64q204⟩) (by assumption) ?restr1x64q204
      case hyr1x64q204 => intro wq hSw; (go_simp); (try with_reducible rfl)
      try simp only [Act.put, List.setIfInBounds_toArray, List.set_cons_zero, List.set_cons_succ]
      refine wpAnyH_take (i := 65) (oi := ⟨some 83, .pick (.tmp 69) (.const (.bool true)) (.tmp 82), 4, "ref.go:165", #[⟨51, .data⟩, ⟨64, .data⟩], none⟩) (v := ?_) rfl (by kernel_rfl) (by kernel_rfl) (by kernel_rfl) (fun _ _ _ h => h) (Or.inl ⟨by rfl, ?hyr1x65q207⟩) (by assumption) ?restr1x65q207
      case hyr1x65q207 => intro wq hSw; (go_simp); (try with_reducible rfl)
      try simp only [Act.put, List.setIfInBounds_toArray, List.set_cons_zero, List.set_cons_succ]
      refine wpAnyH_done (by kernel_rfl) ?_ _
      have K6 := Lib.hid hHeld
      clear hHeld hDrew
      have cq := A4.out _ K6.out
      go_wp2_with fail
      go_loopw [6] (fun i wr => KtRel m4 wb i wr) (fun i _ => m4 - (intOf i).toNat)
      case atStart => exact ⟨0, Nat.zero_le _, rfl, Ex.refl _⟩
      case round =>
        clear cq
        obtain ⟨t, ht, rfl, kv⟩ := hrel
        obtain ⟨wj, rfl⟩ : ∃ wj : World, wj = wr := ⟨_, rfl⟩
        have KV := Lib.hid (K6.out.nx kv)
        have KJ := Lib.hid kv
        clear kv
        have cq := A4.out _ KV.out
        have cr := B4.out _ KV.out
        by_cases htt : t < m4
        · obtain ⟨xa, oa, z, rfl, hxa, hz, hca⟩ := (S4.out.nx KV.out).at htt
          obtain ⟨xb, ob, z', rfl, hxb, hz', hcb⟩ := (T4.out.nx KV.out).at htt
          obtain rfl : z = z' := Option.some.inj (hz.symm.trans hz')
          have f0 : wj.cell? ⟨xa, oa + t * 4, none⟩ = some (.int .i64 z.1) := by simpa using hca 0 _ rfl
          have f1 : wj.cell? ⟨xa, oa + t * 4 + 1, none⟩ = some (.int .i64 z.2.1) := by simpa using hca 1 _ rfl
          have f2 : wj.cell? ⟨xa, oa + t * 4 + 1 + 1, none⟩ = some (.int .i64 z.2.2.1) := by simpa [Nat.add_assoc] using hca 2 _ rfl
          have f3 : wj.cell? ⟨xa, oa + t * 4 + 1 + 1 + 1, none⟩ = some (.int .i64 z.2.2.2) := by simpa [Nat.add_assoc] using hca 3 _ rfl
          have g0 : wj.cell? ⟨xb, ob + t * 4, none⟩ = some (.int .i64 z.1) := by simpa using hcb 0 _ rfl
          have g1 : wj.cell? ⟨xb, ob + t * 4 + 1, none⟩ = some (.int .i64 z.2.1) := by simpa using hcb 1 _ rfl
          have g2 : wj.cell? ⟨xb, ob + t * 4 + 1 + 1, none⟩ = some (.int .i64 z.2.2.1) := by simpa [Nat.add_assoc] using hcb 2 _ rfl
          have g3 : wj.cell? ⟨xb, ob + t * 4 + 1 + 1 + 1, none⟩ = some (.int .i64 z.2.2.2) := by simpa [Nat.add_assoc] using hcb 3 _ rfl
          have RR := Lib.hid (fun m => show KtRel m4 wb (.int .i64 ((t : Int) + 1)) (wj.drewN m) from ⟨t + 1, by omega, by go_num, KJ.out.drewN m⟩)
          clear hca hcb hz hz' hxa hxb
          go_wp2_with fail
          go_quiet (fail)
          go_wp2_with fail
          exact ⟨RR.out _, by simp [intOf]; omega⟩
        · obtain rfl : t = m4 := by omega
          have RR := Lib.hid (show KtRel n w (.int .i64 ((k : Int) + 1)) wj from ⟨k + 1, by omega, by go_num, KW.out.nx KV.out⟩)
          clear ht htt
          go_wp2_with fail
          exact ⟨RR.out, by simp [intOf]; omega⟩
    · obtain rfl : k = n := by omega
      have K1 := Lib.hid KW.out
      clear hk
      go_wp2_with fail
      go_ret
      exact ⟨rfl, K1.out⟩
end Go.Proofs.YtbnbjiddffihoaaDoor

/- The walk over LinearGarbage (printed by gen_l16.py). -/
namespace Go.Proofs.YtbnbjiddffihoaaDoor
open Go.RowKit

theorem ids_pw {N : List Nd} {P : List Pr} (h0 : checkN N = 0) (hs : SameIds N P) : P.Pairwise fun p q => p.id ≠ q.id := by
  rw [List.pairwise_iff_getElem]
  intro i j hi hj hij
  obtain ⟨x, hx⟩ : ∃ x, N[i]? = some x := ⟨N[i]'(by have := hs.1; omega), by simp⟩
  obtain ⟨y, hy⟩ : ∃ y, N[j]? = some y := ⟨N[j]'(by have := hs.1; omega), by simp⟩
  rw [hs.2 i x _ hx (List.getElem?_eq_getElem hi), hs.2 j y _ hy (List.getElem?_eq_getElem hj)]
  exact ids_ne h0 hx hy (by omega)
theorem rot_peer {N : List Nd} {P : List Pr} (h0 : checkN N = 0) (hs : SameIds N P) (r : Nat) (id : Int) : peerN P id = peerN (P.drop r ++ P.take r) id := by
  refine peer_perm ?_ (ids_pw h0 hs) id
  have h1 : P = P.take r ++ P.drop r := (List.take_append_drop r P).symm
  exact (List.Perm.of_eq h1).trans List.perm_append_comm
theorem rot_round {N : List Nd} {P : List Pr} (h0 : checkN N = 0) (hs : SameIds N P) (r : Nat) : roundN N (P.drop r ++ P.take r) = roundN N P :=
  round_eqv fun x _ => by rw [← rot_peer h0 hs r x.id]; exact eqv_refl _ _
theorem not_node {N : List Nd} (h0 : checkN N = 0) {id : Int} (h : (findN N id).2 = false) : ∀ x ∈ N, x.id ≠ id := by
  rintro x hx rfl
  rw [find_in h0 hx] at h
  cases h
theorem EqvP.trans {N : List Nd} {p q r : Pr} (h : EqvP N p q) (k : EqvP N q r) : EqvP N p r := ⟨h.1.trans k.1, h.2.1.trans k.2.1, fun y hy => (h.2.2 y hy).trans (k.2.2 y hy)⟩
theorem EqvP.symm {N : List Nd} {p q : Pr} (h : EqvP N p q) : EqvP N q p := ⟨h.1.symm, h.2.1.symm, fun y hy => (h.2.2 y hy).symm⟩
theorem gar_round {N : List Nd} {P M : List Pr} {m : Pr} {r : Nat} {id v : Int} (h0 : checkN N = 0) (hs : SameIds N P) (hm : P.drop r ++ P.take r = m :: M) (hid : (findN N id).2 = false) :
    roundN N (({ m with known := m.known ++ [id] } :: M) ++ [⟨id, 0, 0, [v], []⟩]) = roundN N P := by
  refine round_eqv fun x hx => ?_
  rw [rot_peer h0 hs r x.id, hm]
  exact (garbage_eqv (not_node h0 hid) rfl hx).symm
theorem Ex.nx2 {w w1 w2 : World} (h : Ex w w1) (k : Chg (· < w.heap.size) w1 w2) : Ex w w2 := Chg.trans h k
theorem emptyQ {wb wq : World} (h : Ex wb wq) : ∃ g wn, g = wq.heap.size ∧ wn = wq.alloc (.cells #[] 41) ∧ OwnW 5 encQ 41 wb.heap.size wn (.slice (some ⟨g, 0, none⟩) 0 0) [] ∧ Ex wb wn :=
  ⟨_, _, rfl, rfl, (OwnL.empty (sz := 5) (enc := encQ) (base := wb.heap.size) h.size rfl).toW, h.alloc _⟩
theorem OwnL.hdr {α : Type} {sz e base : Nat} {enc : α → List Value} {w : World} {h : Hdr} {l : List α} (o : OwnL sz enc e base w h.val l) (hsz : ∀ y, (enc y).length = sz) : Sl sz enc w h.1 h.2.1 l := by
  obtain ⟨a, n, c⟩ := h
  obtain ⟨_, _, e, r, _⟩ := o.rd hsz
  injection e with h1 h2 h3
  subst h1 h2 h3
  exact r.mono (fun _ hk => hk.2)
theorem rot_prv {w : World} {qs : List PQ} {P : List Pr} (hl : qs.length = P.length) (h : ∀ (j : Nat) (q : PQ) (p : Pr), qs[j]? = some q → P[j]? = some p → PrV w q p) (r : Nat) :
    ∀ (j : Nat) (q : PQ) (p : Pr), (qs.drop r ++ qs.take r)[j]? = some q → (P.drop r ++ P.take r)[j]? = some p → PrV w q p := by
  intro j q p hq hp
  have h1 : (qs.drop r).length = (P.drop r).length := by simp [hl]
  rcases Nat.lt_or_ge j (qs.drop r).length with h2 | h2
  · rw [List.getElem?_append_left h2, List.getElem?_drop] at hq
    rw [List.getElem?_append_left (by omega), List.getElem?_drop] at hp
    exact h _ q p hq hp
  · rw [List.getElem?_append_right h2, List.getElem?_take] at hq
    rw [List.getElem?_append_right (by omega), ← h1, List.getElem?_take] at hp
    split at hq
    · rw [if_pos (by assumption)] at hp
      exact h _ q p hq hp
    · cases hq
theorem find16_x (a : Option Addr) (n c : Nat) (l : List Nd) (id : Int) (w : World) (h : Sl 3 encN w a n l) (hn : n ≤ 1000000) :
    Calls Tryd.prog 36 #[.slice a n c, .int .i64 id] w (NbPost (findN l id) w) := by
  have EX := Ex.refl w
  have B4 := Blk.new w [.int .i64 0, .string ⟨#[]⟩, .int .u32 0] 52
  have kk := Ex.new w (.cells #[.int .i64 0, .string ⟨#[]⟩, .int .u32 0] 52)
  obtain ⟨w1, hw1⟩ : ∃ w1, w1 = w.alloc (.cells #[.int .i64 0, .string ⟨#[]⟩, .int .u32 0] 52) := ⟨_, rfl⟩
  obtain ⟨g4, hg4⟩ : ∃ g4, g4 = w.heap.size := ⟨_, rfl⟩
  replace B4 : Blk w1 g4 [.int .i64 0, .string ⟨#[]⟩, .int .u32 0] 52 := by rw [hw1, hg4]; exact B4
  rw [← hw1] at kk
  have Hw1 := Lib.hid hw1
  have Hg4 := Lib.hid hg4
  replace h := h.nx kk
  replace EX := EX.nx kk
  have zg : w.heap.size ≤ g4 := by omega
  clear kk hw1 hg4
  go_enter Tryd.func36, Tryd.ntmps36
  go_upto_region 1 with fail
  rw [← Hg4.out, ← Hw1.out]
  clear Hg4 Hw1
  go_wp2_with fail
  (with_reducible refine (find_r _ _ _ _ id _ h hn).mono ?_)
  rintro e w2 ⟨rfl, kk⟩
  replace EX := EX.nx kk
  replace B4 := B4.nx kk
  clear kk
  clear h
  obtain ⟨F, hF⟩ : ∃ F, F = findN l id := ⟨_, rfl⟩
  have HF := Lib.hid hF
  rw [← hF]
  clear hF
  obtain ⟨⟨xi, xk, xw⟩, ok⟩ := F
  simp only [Nd.val]
  have f0 := B4.free 0
  have f1 := B4.free 1
  have f2 := B4.free 2
  have q0 := B4.cell 0 _ rfl
  have q1 := B4.cell 1 _ rfl
  have q2 := B4.cell 2 _ rfl
  have KF := Lib.hid (((EX.setNew (p := ⟨g4, 0, none⟩) (.int .i64 xi) zg).setNew (p := ⟨g4, 1, none⟩) (.string xk) zg).setNew (p := ⟨g4, 2, none⟩) (.int .u32 xw) zg)
  clear B4 EX
  go_wp2_with fail
  refine bodyPost_ret (v := .tuple #[.agg #[.int .i64 xi, .string xk, .int .u32 xw], .bool ok]) (by simp [results, Tryd.results36, go_sem, *]) rfl ⟨by rw [← HF.out]; rfl, KF.out⟩
set_option maxRecDepth 100000 in
set_option maxHeartbeats 16000000 in
theorem lineargarbage_walk (a1 : Option Addr) (n1 c1 : Nat) (l1 : List Int) (id : Int) (w : World) (h1 : Sl 1 encI w a1 n1 l1) (hc1 : n1 ≤ c1) (hm1 : c1 ≤ maxLen) (hT : TabG w) (hL : LetG w) :
    Calls Tryd.prog 8 #[.slice a1 n1 c1, .int .i64 id] w fun e w' => e = .returned (.bool true) ∧ Ex w w' := by
  go_enter Tryd.func8, Tryd.ntmps8
  go_wp2_with fail
  refine (new_t _ _ _ l1 _ h1 hc1 hm1).mono ?_
  rintro e w1 ⟨rfl, T, kk, z1⟩
  obtain ⟨b, hb⟩ : ∃ b, b = w.heap.size := ⟨_, rfl⟩
  rw [← hb] at T ⊢
  have hgt : ¬ 1 = b := by have := hT.lt; omega
  have hgl : ¬ 0 = b := by have := hL.lt; omega
  have T1 : Hid (TabG w1) := Lib.hid (hT.nx kk)
  have L1 : Hid (LetG w1) := Lib.hid (hL.nx kk)
  have QL : Hid (Exl b w w1) := Lib.hid ⟨kk, by omega⟩
  clear h1 hT hL kk hb z1
  have hbo := T.lt
  go_wp2_with fail
  refine (some_n 7 _ T L1.out hgl (by omega) (by omega)).mono ?_
  clear T
  rintro e x1 ⟨v1, L, rfl, R, hL1⟩
  have kw := R.k
  have T := R.tape
  obtain ⟨aX, cX, rfl, SX, hcX, hmX, _⟩ := R.own.slf (fun _ => rfl)
  have SX := SX.slb hbo
  have RL := R.len
  have H0 := Lib.hid R.ok
  have HW : Hid (∀ x ∈ L, x.word < 4294967296) := Lib.hid (fun x hx => by have := R.word x hx; omega)
  clear R
  go_wp2_with fail
  refine (next_t 3 _ T (by omega) (by omega)).mono ?_
  clear T
  rintro e x2 ⟨hh, rfl, hh0, hh1, T, kk⟩
  replace kw := kw.nxb kk
  replace SX := SX.nxb kk
  clear kk
  obtain ⟨ht, rfl⟩ : ∃ t : Nat, hh = t := ⟨hh.toNat, by omega⟩
  have hbx := T.lt
  go_wp2_with fail
  refine (joined_t ht _ _ _ L _ T SX (by omega) hcX hmX H0.out (by omega)).mono ?_
  clear T
  rintro e x3 ⟨vJ, qs, P0, rfl, J⟩
  replace kw := kw.nxb J.k
  replace SX := SX.nxb J.k
  have T := J.tape
  have IDS := Lib.hid J.ids
  have HF : Hid (FewQ 100 200 P0) := Lib.hid J.small
  have OWN := Lib.hid J.own
  have hPJ : P0.length = L.length := J.ids.1
  obtain ⟨aJ, cJ, rfl, _, hcJ, hmJ, hgJ, _⟩ := J.own.pl
  obtain ⟨gJ, hgJe, hgJ⟩ := hgJ (fun h => by rw [h] at hPJ; simp at hPJ; omega)
  subst hgJe
  clear J
  rw [hPJ] at hcJ OWN ⊢
  have hqs : qs.length = L.length := by rw [OWN.out.2.1, hPJ]
  replace hPJ := Lib.hid hPJ
  go_wp2_with fail
  refine (next_t (L.length : Int) _ T (by omega) (by omega)).mono ?_
  clear T
  rintro e x4 ⟨r, rfl, hr0, hr1, T, kk⟩
  obtain ⟨r, rfl⟩ : ∃ t : Nat, r = t := ⟨r.toNat, by omega⟩
  have hrL : r < L.length := by omega
  have OW4 := Lib.hid (OWN.out.nxb hbx kk)
  have HS := Lib.hid (SX.nxb kk).sl
  have TG := Lib.hid (T1.out.nxb hgt (kw.nxb kk))
  have QX := Lib.hid (QL.out.nxb (kw.nxb kk)).1
  have SQ : Hid (Sl 5 encQ x4 (some ⟨gJ, 0, none⟩) L.length qs) := Lib.hid (by
    obtain ⟨a', c', e', r', _⟩ := OW4.out.1.rd encQ_len
    injection e' with h1 h2 h3
    rw [← h1, ← h2] at r'
    exact r'.mono (fun _ hk => hk.2))
  have PLL : Hid (PL x4 (some ⟨gJ, 0, none⟩) L.length P0) := Lib.hid (by
    obtain ⟨a', c', e', r', _⟩ := OW4.out.pl
    injection e' with h1 h2 h3
    rw [← h1, hPJ.out] at r'
    exact r')
  have HPV : Hid (∀ (j : Nat) (q : PQ) (p : Pr), qs[j]? = some q → P0[j]? = some p → PrV x4 q p) := Lib.hid (fun j q p hq hp => by
    obtain ⟨h1, h2, h3⟩ := OW4.out.2.2.1 j q p hq hp
    exact ⟨h1, h2.hdr (fun _ => rfl), h3.hdr (fun _ => rfl)⟩)
  have HPM := Lib.hid (rot_prv (by rw [hqs, hPJ.out]) HPV.out r)
  have SM0 := Lib.hid (few_small HF.out)
  have SD : Hid (Sl 5 encQ x4 (some ⟨gJ, r * 5, none⟩) (L.length - r) (qs.drop r)) := Lib.hid (by have := SQ.out.drop (m := r) (by omega); simpa using this)
  have ST : Hid (Sl 5 encQ x4 (some ⟨gJ, 0, none⟩) r (qs.take r)) := Lib.hid (SQ.out.take (by omega))
  have hb1 : (0 : Int) ≤ (r : Int) := by omega
  have hb2 : (r : Int) ≤ (L.length : Int) := by omega
  have hb3 : (r : Int) ≤ (cJ : Int) := by omega
  have hcr : ¬ cJ = r := by omega
  clear T kk SX kw OWN HPV
  go_upto_region 5 with fail
  refine wp_region_held_drew (S := Ex x4) (by kernel_rfl) ((Ex.refl x4).drew) (fun hHeld => ?_)
  obtain ⟨wd, hwdx⟩ : ∃ wd : World, wd = World.drew x4 := ⟨_, rfl⟩
  rw [← hwdx] at hHeld ⊢
  have hDrew : Ex x4 wd := by rw [hwdx]; exact (Ex.refl x4).drew
  clear hwdx
  refine wpAnyH_take (i := 1) (oi := ⟨some 30, .move (.tmp 8), 36, "law.go:164", #[], none⟩) (v := ?_) rfl (by kernel_rfl) (by kernel_rfl) (by kernel_rfl) (fun _ _ _ h => h) (Or.inl ⟨by rfl, ?hyr1x1q5⟩) (by assumption) ?restr1x1q5
  case hyr1x1q5 => intro wq hSw; (go_simp); (try with_reducible rfl)
  try simp only [Act.put, List.setIfInBounds_toArray, List.set_cons_zero, List.set_cons_succ]
  refine wpAnyH_take (i := 2) (oi := ⟨some 31, .move (.tmp 9), 3, "law.go:164", #[], none⟩) (v := ?_) rfl (by kernel_rfl) (by kernel_rfl) (by kernel_rfl) (fun _ _ _ h => h) (Or.inl ⟨by rfl, ?hyr1x2q8⟩) (by assumption) ?restr1x2q8
  case hyr1x2q8 => intro wq hSw; (go_simp); (try with_reducible rfl)
  try simp only [Act.put, List.setIfInBounds_toArray, List.set_cons_zero, List.set_cons_succ]
  refine wpAnyH_take (i := 3) (oi := ⟨some 32, .slice 36 (.tmp 30) (some (.tmp 31)) none none, 36, "law.go:164", #[⟨1, .data⟩, ⟨2, .data⟩], none⟩) (v := ?_) rfl (by kernel_rfl) (by kernel_rfl) (by kernel_rfl) (fun _ _ _ h => h) (Or.inl ⟨by rfl, ?hyr1x3q11⟩) (by assumption) ?restr1x3q11
  case hyr1x3q11 => intro wq hSw; (go_simp); (try with_reducible rfl)
  try simp only [Act.put, List.setIfInBounds_toArray, List.set_cons_zero, List.set_cons_succ]
  refine wpAnyH_take (i := 5) (oi := ⟨some 34, .move (.tmp 8), 36, "law.go:164", #[], none⟩) (v := ?_) rfl (by kernel_rfl) (by kernel_rfl) (by kernel_rfl) (fun _ _ _ h => h) (Or.inl ⟨by rfl, ?hyr1x5q14⟩) (by assumption) ?restr1x5q14
  case hyr1x5q14 => intro wq hSw; (go_simp); (try with_reducible rfl)
  try simp only [Act.put, List.setIfInBounds_toArray, List.set_cons_zero, List.set_cons_succ]
  refine wpAnyH_take (i := 6) (oi := ⟨some 35, .move (.tmp 9), 3, "law.go:164", #[], none⟩) (v := ?_) rfl (by kernel_rfl) (by kernel_rfl) (by kernel_rfl) (fun _ _ _ h => h) (Or.inl ⟨by rfl, ?hyr1x6q17⟩) (by assumption) ?restr1x6q17
  case hyr1x6q17 => intro wq hSw; (go_simp); (try with_reducible rfl)
  try simp only [Act.put, List.setIfInBounds_toArray, List.set_cons_zero, List.set_cons_succ]
  refine wpAnyH_take (i := 7) (oi := ⟨some 36, .slice 36 (.tmp 34) none (some (.tmp 35)) none, 36, "law.go:164", #[⟨5, .data⟩, ⟨6, .data⟩], none⟩) (v := ?_) rfl (by kernel_rfl) (by kernel_rfl) (by kernel_rfl) (fun _ _ _ h => h) (Or.inl ⟨by rfl, ?hyr1x7q20⟩) (by assumption) ?restr1x7q20
  case hyr1x7q20 => intro wq hSw; (go_simp); (try with_reducible rfl)
  try simp only [Act.put, List.setIfInBounds_toArray, List.set_cons_zero, List.set_cons_succ]
  refine wpAnyH_ready (rs := [0]) (by kernel_rfl) (by simp) ?_
  refine AllReadyH.cons (o := ⟨some 29, .buildSlice 36 0 #[], 36, "law.go:164", #[], none⟩) rfl (fun K hK => ?_) AllReadyH.nil
  go_simp
  obtain ⟨g0, wq, hg0, hwq, OW, kk⟩ := emptyQ hHeld
  rw [← hg0, ← hwq]
  clear hg0 hwq
  replace hHeld := kk
  clear kk
  refine hK.out _ _ (hHeld) (fun hHeld => ?_)
  clear hK K
  try simp only [Act.put, List.setIfInBounds_toArray, List.set_cons_zero, List.set_cons_succ]
  refine wpAnyH_ready (rs := [4]) (by kernel_rfl) (by simp) ?_
  refine AllReadyH.cons (o := ⟨some 33, .call { callee := .builtin .append, args := #[.tmp 29, .tmp 32], argTypes := #[36, 36] }, 36, "law.go:164", #[⟨0, .data⟩, ⟨3, .data⟩], none⟩) rfl (fun K hK => ?_) AllReadyH.nil
  rw [if_pos (by rfl)]
  have zb := hHeld.size
  refine wp_append_W (enc := encQ) _ _ _ 36 rfl x4.heap.size 41 (.agg #[.int .i64 0, .slice none 0 0, .int .i64 0, .int .i64 0, .slice none 0 0]) 5 72 Tryd.underlying36 Tryd.infoPr rfl (by omega) (by omega) _ [] OW rfl _ _ _ (qs.drop r) (SD.out.nx hHeld) encQ_len encQ_one rfl (by simp) (by omega) zb ?_
  intro v1 w1 OW1 ch0 ch1 hv1
  replace hHeld := hHeld.nx2 ch1
  rw [List.nil_append] at OW1
  clear ch0 ch1 hv1 OW
  refine hK.out _ _ (hHeld) (fun hHeld => ?_)
  clear hK K
  try simp only [Act.put, List.setIfInBounds_toArray, List.set_cons_zero, List.set_cons_succ]
  refine wpAnyH_ready (rs := [8]) (by kernel_rfl) (by simp) ?_
  refine AllReadyH.cons (o := ⟨some 37, .call { callee := .builtin .append, args := #[.tmp 33, .tmp 36], argTypes := #[36, 36] }, 36, "law.go:164", #[⟨4, .data⟩, ⟨7, .data⟩, ⟨4, .chain⟩], none⟩) rfl (fun K hK => ?_) AllReadyH.nil
  rw [if_pos (by rfl)]
  have zb := hHeld.size
  refine wp_append_W (enc := encQ) _ _ _ 36 rfl x4.heap.size 41 (.agg #[.int .i64 0, .slice none 0 0, .int .i64 0, .int .i64 0, .slice none 0 0]) 5 72 Tryd.underlying36 Tryd.infoPr rfl (by omega) (by omega) _ (qs.drop r) OW1 rfl _ _ _ (qs.take r) (ST.out.nx hHeld) encQ_len encQ_one rfl (by rw [List.length_drop]; omega) (by omega) zb ?_
  intro v2 w2 OW2 ch0 ch1 hv1
  replace hHeld := hHeld.nx2 ch1
  clear ch0 ch1 hv1 OW1
  refine hK.out _ _ (hHeld) (fun hHeld => ?_)
  clear hK K
  try simp only [Act.put, List.setIfInBounds_toArray, List.set_cons_zero, List.set_cons_succ]
  refine wpAnyH_take (i := 9) (oi := ⟨some 10, .assign (.tmp 37), 36, "law.go:164", #[⟨8, .data⟩, ⟨8, .chain⟩, ⟨0, .phase⟩, ⟨1, .phase⟩, ⟨2, .phase⟩, ⟨3, .phase⟩, ⟨4, .phase⟩, ⟨5, .phase⟩, ⟨6, .phase⟩, ⟨7, .phase⟩, ⟨8, .phase⟩], none⟩) (v := ?_) rfl (by kernel_rfl) (by kernel_rfl) (by kernel_rfl) (fun _ _ _ h => h) (Or.inl ⟨by rfl, ?hyr1x9q57⟩) (by assumption) ?restr1x9q57
  case hyr1x9q57 => intro wq hSw; (go_simp); (try with_reducible rfl)
  try simp only [Act.put, List.setIfInBounds_toArray, List.set_cons_zero, List.set_cons_succ]
  refine wpAnyH_done (by kernel_rfl) ?_ _
  have KM := Lib.hid hHeld
  obtain ⟨aM, cM, rfl, SM, hcM, _, hgM, _⟩ := OW2.rd encQ_len
  have hML : (qs.drop r ++ qs.take r).length = L.length := by simp; omega
  have hMP : (P0.drop r ++ P0.take r).length = L.length := by have := hPJ.out; simp; omega
  rw [hML] at SM hcM ⊢
  have OWM := Lib.hid OW2
  rw [hML] at OWM
  have SMH : Hid (Sl 5 encQ w2 aM L.length (qs.drop r ++ qs.take r)) := Lib.hid (SM.mono (fun _ hk => hk.2))
  obtain ⟨gM, hgMe, hgM⟩ := hgM (fun h => by rw [h] at hML; simp at hML; omega)
  subst hgMe
  clear hHeld OW2 SM
  go_wp2_with fail
  (with_reducible refine (find16_x _ _ _ L id _ (HS.out.nx KM.out) (by omega)).mono ?_)
  rintro e w3 ⟨rfl, kk⟩
  replace KM := Lib.hid (KM.out.nx kk)
  replace SMH := Lib.hid (SMH.out.nx kk)
  replace OWM := Lib.hid (OWM.out.nx kk)
  clear kk
  obtain ⟨F, hF⟩ : ∃ F, F = findN L id := ⟨_, rfl⟩
  have HFN := Lib.hid hF
  rw [← hF]
  clear hF
  obtain ⟨⟨xi, xk, xw⟩, ok⟩ := F
  have B5 := Blk.new w3 [.int .i64 xi, .string xk, .int .u32 xw] 52
  have kk := Ex.new w3 (.cells #[.int .i64 xi, .string xk, .int .u32 xw] 52)
  obtain ⟨w4, hw4⟩ : ∃ w4, w4 = w3.alloc (.cells #[.int .i64 xi, .string xk, .int .u32 xw] 52) := ⟨_, rfl⟩
  obtain ⟨g5, hg5⟩ : ∃ g5, g5 = w3.heap.size := ⟨_, rfl⟩
  replace B5 : Blk w4 g5 [.int .i64 xi, .string xk, .int .u32 xw] 52 := by rw [hw4, hg5]; exact B5
  rw [← hw4] at kk
  have Hw4 := Lib.hid hw4
  have Hg5 := Lib.hid hg5
  replace KM := Lib.hid (KM.out.nx kk)
  replace SMH := Lib.hid (SMH.out.nx kk)
  replace OWM := Lib.hid (OWM.out.nx kk)
  clear kk hw4 hg5 B5
  simp only [Nd.val]
  go_upto_region 7 with fail
  rw [← Hg5.out, ← Hw4.out]
  clear Hg5 Hw4
  cases ok with
  | true =>
    have HRM := Lib.hid (rot_round H0.out IDS.out r)
    have PLM : Hid (PL w4 (some ⟨gM, 0, none⟩) L.length (P0.drop r ++ P0.take r)) := Lib.hid ⟨_, SMH.out, hMP, fun j q p hq hp => (HPM.out j q p hq hp).nx KM.out⟩
    have SMM : Hid (SmallP (P0.drop r ++ P0.take r)) := Lib.hid (fun p hp => by
      rcases List.mem_append.1 hp with h | h
      · exact SM0.out p (List.mem_of_mem_drop h)
      · exact SM0.out p (List.mem_of_mem_take h))
    clear SMH OWM HPM SD ST SQ hMP
    generalize P0.drop r ++ P0.take r = Mx at HRM PLM SMM
    go_wp2_with fail
    (with_reducible refine (lround_p _ _ _ L _ _ _ P0 _ (HS.out.nx KM.out) (by omega) hcX hmX (PLL.out.nx KM.out) (by omega) SM0.out).mono ?_)
    rintro e w10 ⟨v10, q10, rfl, o10, kk⟩
    replace PLM := Lib.hid (PLM.out.nx kk)
    replace KM := Lib.hid (KM.out.nx kk)
    have hl9 : (roundN L P0).length = L.length := round_len H0.out
    have RSM : Hid (∀ p ∈ roundN L P0, p.known.length ≤ 1000000 ∧ p.near.length ≤ 1000000) := Lib.hid (fun p hp => by have := round_few HF.out (show L.length ≤ 100 by omega) p hp; omega)
    generalize roundN L P0 = R at o10 hl9 HRM RSM
    obtain ⟨a10, c10, rfl, P10, _, _, _⟩ := o10.pl
    rw [hl9] at P10 ⊢
    have HP10 := Lib.hid P10
    clear o10 P10 kk
    go_wp2_with fail
    (with_reducible refine (lround_p _ _ _ L _ _ _ _ _ (HS.out.nx KM.out) (by omega) hcX hmX PLM.out (by omega) SMM.out).mono ?_)
    rintro e w11 ⟨v11, q11, rfl, o11, kk⟩
    rw [HRM.out] at o11
    obtain ⟨a11, c11, rfl, P11, _, _, _⟩ := o11.pl
    rw [hl9] at P11 ⊢
    have HP11 := Lib.hid P11
    replace HP10 := Lib.hid (HP10.out.nx kk)
    replace KM := Lib.hid (KM.out.nx kk)
    clear o11 P11 kk PLM
    go_wp2_with fail
    (with_reducible refine (same14_r _ _ _ R _ _ _ HP10.out HP11.out (by omega) RSM.out).mono ?_)
    rintro e w12 ⟨rfl, kk⟩
    have KE := Lib.hid (KM.out.nx kk)
    clear kk HP10 HP11 KM
    go_wp2_with fail
    (with_reducible refine (sane16_x _ (TG.out.nx KE.out)).mono ?_)
    rintro e wz ⟨rfl, kk⟩
    have KF := Lib.hid (QX.out.nx (KE.out.nx kk))
    clear kk
    go_wp2_with fail
    go_ret
    exact ⟨rfl, KF.out⟩
  | false =>
    have hid : (findN L id).2 = false := by rw [← HFN.out]
    obtain ⟨m0, Mt, hMe⟩ : ∃ m0 Mt, P0.drop r ++ P0.take r = m0 :: Mt := by
      cases hc : P0.drop r ++ P0.take r with
      | nil => rw [hc] at hMP; simp at hMP; omega
      | cons m0 Mt => exact ⟨m0, Mt, rfl⟩
    obtain ⟨q0, Qt, hQe⟩ : ∃ q0 Qt, qs.drop r ++ qs.take r = q0 :: Qt := by
      cases hc : qs.drop r ++ qs.take r with
      | nil => rw [hc] at hML; simp at hML; omega
      | cons m0 Mt => exact ⟨m0, Mt, rfl⟩
    rw [hMe] at HPM hMP
    rw [hQe] at OWM hML HPM
    have hm0 := HPM.out 0 q0 m0 rfl rfl
    have GR := Lib.hid (fun v => gar_round (v := v) H0.out IDS.out hMe hid)
    have SMM0 : Hid (SmallP (m0 :: Mt)) := Lib.hid (fun p hp => by
      rw [← hMe] at hp
      rcases List.mem_append.1 hp with h | h
      · exact SM0.out p (List.mem_of_mem_drop h)
      · exact SM0.out p (List.mem_of_mem_take h))
    have SMS : m0.known.length ≤ 100 := by
      have hp : m0 ∈ P0.drop r ++ P0.take r := by rw [hMe]; simp
      rcases List.mem_append.1 hp with h | h
      · exact (HF.out _ (List.mem_of_mem_drop h)).1
      · exact (HF.out _ (List.mem_of_mem_take h)).1
    obtain ⟨⟨qi, ql, qr⟩, ⟨A1, n1', C1⟩, ⟨A4, n4', C4⟩⟩ := q0
    have hA1 : Hid (Sl 1 encI x4 A1 n1' m0.known) := Lib.hid hm0.2.1
    have hA4 : Hid (Sl 4 encNr x4 A4 n4' m0.near) := Lib.hid hm0.2.2
    have hnum : (qi, ql, qr) = m0.nums := hm0.1
    have hgMl : gM < w4.heap.size := OWM.out.blk_lt rfl
    obtain ⟨xl, ol, x0, rfl, hxl, hx0, hcl⟩ := (HS.out.nx KM.out).at (j := 0) (by omega)
    have e0 : w4.cell? ⟨xl, ol, none⟩ = some (.int .i64 x0.id) := by simpa using hcl 0 _ rfl
    have hn0 : 0 < L.length := by omega
    have k1 := Ex.new w4 (.cells #[.int .i64 x0.id] 3)
    have BK := Blk.new w4 [.int .i64 x0.id] 3
    have k2 := Ex.new (w4.alloc (.cells #[.int .i64 x0.id] 3)) (.cells #[.int .i64 id, .slice (some ⟨w4.heap.size, 0, none⟩) 1 1, .int .i64 0, .int .i64 0, .slice none 0 0] 41)
    have OK2 := Lib.hid ((own_lit1 (base := x4.heap.size) BK KM.out.size).nx k2)
    have OM2 := OWM.out.nx (k1.nx k2)
    have KM2 := Lib.hid (KM.out.nx (k1.nx k2))
    have zb2 := KM2.out.size
    clear hx0 hcl hm0 BK SMH k1 k2 hMe hQe SD ST SQ
    go_upto_region 9 with (at_builtin; (refine wpList_append_W (enc := encQ) _ rfl _ _ 36 rfl x4.heap.size 41 (.agg #[.int .i64 0, .slice none 0 0, .int .i64 0, .int .i64 0, .slice none 0 0]) 5 72 Tryd.underlying36 Tryd.infoPr rfl (by omega) (by omega) _ _ OM2 rfl _ 1 1 [((id, 0, 0), (some ⟨w4.heap.size, 0, none⟩, 1, 1), (none, 0, 0))] (Sl.lit _ (by simp) rfl encQ_len rfl) encQ_len encQ_one rfl (by omega) (by omega) zb2 ?_); intro v5 w5 own5 ch0 ch1 _; obtain ⟨a5, c5, e5, _, hc5, _, hg5, _⟩ := own5.rd encQ_len; generalize hl5 : (((qi, ql, qr), (A1, n1', C1), (A4, n4', C4)) :: Qt ++ [(((id, 0, 0), (some ⟨w4.heap.size, 0, none⟩, 1, 1), (none, 0, 0)) : PQ)]).length = n5 at e5 hc5; obtain ⟨g5, hg5e, hg5b⟩ := hg5 (by simp); subst hg5e e5)
    have hn5 : n5 = L.length + 1 := by rw [← hl5]; simp; simp at hML; omega
    have KM5 := Lib.hid (KM2.out.nx2 ch1)
    have OK5 := Lib.hid (OK2.out.chg ch0 (fun x hx hv => ⟨hx, fun hg => by simp [Value.ownBlock] at hv hg; omega⟩))
    have OM5 := Lib.hid own5
    have hg5l : g5 < w5.heap.size := own5.blk_lt rfl
    clear OM2 OK2 ch0 ch1 own5 e0 hl5
    subst hn5
    obtain ⟨q0, hq0⟩ : ∃ q0 : PQ, q0 = ((qi, ql, qr), (A1, n1', C1), (A4, n4', C4)) := ⟨_, rfl⟩
    have hq0' := hq0
    rw [← hq0'] at OM5 HPM hML
    have HQ0 := Lib.hid hq0
    have s1 : w5.cell? ⟨g5, 1, none⟩ = some (.slice A1 n1' C1) := by
      have h := (OwnW.set1 encQ_len OM5.out (j := 0) (y := q0) rfl (c := 1) (by omega)).1
      rw [hq0, Nat.zero_mul, Nat.zero_add] at h
      exact h
    have k0 := Ex.new w5 (.cells #[] 3)
    have own0 : OwnL 1 encI 3 w5.heap.size (w5.alloc (.cells #[] 3)) (.slice (some ⟨w5.heap.size, 0, none⟩) 0 0) [] := OwnL.empty (Nat.le_refl _) rfl
    have SK := hA1.out.nx (KM5.out.nx k0)
    have hn1' : n1' ≤ 100 := by have := hA1.out.len; omega
    have z5a := k0.size
    clear hq0 hq0' hnum
    go_upto_region 10 with (first
      | (at_builtin; (refine wpList_append_rq (enc := encI) _ rfl _ _ 22 rfl w5.heap.size 3 (.int .i64 0) 1 8 Tryd.underlying22 Tryd.infoI6 rfl (by omega) (by omega) _ [] own0 rfl A1 n1' C1 m0.known SK (fun _ => rfl) (by simp [encI, Value.oneCell']) rfl (by simp) (by omega) z5a ?_); intro v6 w6 own6 ch60 ch61; rw [List.nil_append] at own6; have K56 : Ex w5 w6 := Chg.trans k0 ch61; have k6 := Ex.new w6 (.cells #[.int .i64 id] 3); have own6a := own6.nx k6; have z6a := (K56.nx k6).size; clear own0 ch60 ch61 own6 s1)
      | (at_builtin; (refine wpList_append_rq (enc := encI) _ rfl _ _ 22 rfl w5.heap.size 3 (.int .i64 0) 1 8 Tryd.underlying22 Tryd.infoI6 rfl (by omega) (by omega) _ m0.known own6a rfl _ 1 1 [id] (Sl.lit _ rfl rfl (fun _ => rfl) rfl) (fun _ => rfl) (by simp [encI, Value.oneCell']) rfl (by omega) (by omega) z6a ?_); intro v7 w7 own7 ch70 ch71; have K57 : Ex w5 w7 := Chg.trans (K56.nx k6) ch71; obtain ⟨A7, C7, e7, _, _, _, _⟩ := own7.rd (fun _ => rfl); generalize (m0.known ++ [id]).length = n7 at e7; subst e7; obtain ⟨s1, s2, s3⟩ := OwnW.set1 encQ_len (OM5.out.nx K57) (j := 0) (y := q0) rfl (c := 1) (by omega); rw [HQ0.out] at s1; simp only [Nat.zero_mul, Nat.zero_add] at s1 s2; replace s1 : w7.cell? ⟨g5, 1, none⟩ = some (.slice A1 n1' C1) := s1; replace s3 := Lib.hid s3; clear ch70 ch71 own6a k6))
    have O9 := s3.out (q0.1, (A7, n7, C7), q0.2.2) (.slice A7 n7 C7) (by rw [HQ0.out]; rfl)
    obtain ⟨w8, hw8⟩ : ∃ w8, w8 = w7.setCell ⟨g5, 1, none⟩ (.slice A7 n7 C7) := ⟨_, rfl⟩
    rw [Nat.zero_mul, Nat.zero_add, ← hw8] at O9
    rw [← hw8]
    have KM8 : Ex x4 w8 := by rw [hw8]; exact (KM5.out.nx K57).setNew (p := ⟨g5, 1, none⟩) _ hg5b
    have o78 : OwnL 1 encI 3 w5.heap.size w8 (.slice A7 n7 C7) (m0.known ++ [id]) := by rw [hw8]; exact own7.chg (set_chg w7 _) (fun x hx hv => ⟨hx, by have := (own7.lt x hv).1; omega⟩)
    have o88 : OwnL 1 encI 3 x4.heap.size w8 (.slice (some ⟨w4.heap.size, 0, none⟩) 1 1) [x0.id] := by
      rw [hw8]
      refine (OK5.out.nx K57).chg (set_chg w7 _) (fun x hx hv => ⟨hx, fun he => ?_⟩)
      subst he
      obtain ⟨_, c1', h1'⟩ := (OK5.out.nx K57).blk hv
      obtain ⟨_, c2', h2'⟩ := (OM5.out.nx K57).blk (g := x) rfl
      exact blk_kind (by decide) h1' h2'
    have KM := Lib.hid KM8
    have HRM := Lib.hid (GR.out x0.id)
    have PLM : Hid (PL w8 (some ⟨g5, 0, none⟩) (L.length + 1) (({ m0 with known := m0.known ++ [id] } :: Mt) ++ [⟨id, 0, 0, [x0.id], []⟩])) := Lib.hid (by
      obtain ⟨a', c', e', r', _⟩ := O9.rd encQ_len
      injection e' with h1 h2 h3
      rw [← h1, ← h2] at r'
      refine ⟨_, r'.mono (fun _ hk => hk.2), by simp; simp at hMP; omega, fun j q p hq hp => ?_⟩
      rw [List.cons_append, List.set_cons_zero] at hq
      rcases j with _ | j
      · simp only [List.cons_append, List.getElem?_cons_zero, Option.some.injEq] at hq hp
        subst hq hp
        refine ⟨?_, o78.hdr (h := (A7, n7, C7)) (fun _ => rfl), ?_⟩
        · exact (HPM.out 0 q0 m0 rfl rfl).1
        · rw [HQ0.out]; exact hA4.out.nx KM8
      · simp only [List.cons_append, List.getElem?_cons_succ] at hq hp
        have hll : Qt.length = Mt.length := by simp at hML hMP; omega
        rcases Nat.lt_or_ge j Qt.length with h9 | h9
        · rw [List.getElem?_append_left h9] at hq
          rw [List.getElem?_append_left (by omega)] at hp
          exact (HPM.out (j + 1) q p hq hp).nx KM8
        · rw [List.getElem?_append_right h9] at hq
          rw [List.getElem?_append_right (by omega), ← hll] at hp
          have hj0 : j - Qt.length = 0 := by
            have := (List.getElem?_eq_some_iff.1 hq).1
            simp at this
            omega
          rw [hj0] at hq hp
          simp only [List.getElem?_cons_zero, Option.some.injEq] at hq hp
          subst hq hp
          exact ⟨rfl, o88.hdr (h := (some ⟨w4.heap.size, 0, none⟩, 1, 1)) (fun _ => rfl), Sl.nil _ _ _ _⟩)
    have SMM : Hid (SmallP (({ m0 with known := m0.known ++ [id] } :: Mt) ++ [⟨id, 0, 0, [x0.id], []⟩])) := Lib.hid (fun p hp => by
      simp only [List.cons_append, List.mem_cons, List.mem_append, List.not_mem_nil, or_false] at hp
      rcases hp with rfl | hp | rfl
      · have := SMM0.out m0 (by simp)
        simp
        omega
      · exact SMM0.out p (by simp [hp])
      · simp)
    clear hw8 O9 o78 o88 KM8 own7 s1 s2 s3 K57 K56 k0 SK OM5 OK5 KM5 KM2 GR SMM0 HPM
    generalize ({ m0 with known := m0.known ++ [id] } :: Mt) ++ [⟨id, 0, 0, [x0.id], []⟩] = Mx at HRM PLM SMM
    go_wp2_with fail
    (with_reducible refine (lround_p _ _ _ L _ _ _ P0 _ (HS.out.nx KM.out) (by omega) hcX hmX (PLL.out.nx KM.out) (by omega) SM0.out).mono ?_)
    rintro e w10 ⟨v10, q10, rfl, o10, kk⟩
    replace PLM := Lib.hid (PLM.out.nx kk)
    replace KM := Lib.hid (KM.out.nx kk)
    have hl9 : (roundN L P0).length = L.length := round_len H0.out
    have RSM : Hid (∀ p ∈ roundN L P0, p.known.length ≤ 1000000 ∧ p.near.length ≤ 1000000) := Lib.hid (fun p hp => by have := round_few HF.out (show L.length ≤ 100 by omega) p hp; omega)
    generalize roundN L P0 = R at o10 hl9 HRM RSM
    obtain ⟨a10, c10, rfl, P10, _, _, _⟩ := o10.pl
    rw [hl9] at P10 ⊢
    have HP10 := Lib.hid P10
    clear o10 P10 kk
    go_wp2_with fail
    (with_reducible refine (lround_p _ _ _ L _ _ _ _ _ (HS.out.nx KM.out) (by omega) hcX hmX PLM.out (by omega) SMM.out).mono ?_)
    rintro e w11 ⟨v11, q11, rfl, o11, kk⟩
    rw [HRM.out] at o11
    obtain ⟨a11, c11, rfl, P11, _, _, _⟩ := o11.pl
    rw [hl9] at P11 ⊢
    have HP11 := Lib.hid P11
    replace HP10 := Lib.hid (HP10.out.nx kk)
    replace KM := Lib.hid (KM.out.nx kk)
    clear o11 P11 kk PLM
    go_wp2_with fail
    (with_reducible refine (same14_r _ _ _ R _ _ _ HP10.out HP11.out (by omega) RSM.out).mono ?_)
    rintro e w12 ⟨rfl, kk⟩
    have KE := Lib.hid (KM.out.nx kk)
    clear kk HP10 HP11 KM
    go_wp2_with fail
    (with_reducible refine (sane16_x _ (TG.out.nx KE.out)).mono ?_)
    rintro e wz ⟨rfl, kk⟩
    have KF := Lib.hid (QX.out.nx (KE.out.nx kk))
    clear kk
    go_wp2_with fail
    go_ret
    exact ⟨rfl, KF.out⟩
end Go.Proofs.YtbnbjiddffihoaaDoor

/- What the laid tables give the walks. -/
namespace Go.Proofs.YtbnbjiddffihoaaDoor
open Go.RowKit

theorem Tryd.gTab : Tryd.prog.globalNamed "math/bits.deBruijn32tab" = some 1 := by kernel_rfl
theorem Tryd.tTab : (Tryd.prog.globals[1]?).map (·.type) = some 171 := by kernel_rfl
theorem Tryd.cells32 : Tryd.prog.cellsOf 171 = 32 := by kernel_rfl
theorem Tryd.cellsU8 : Tryd.prog.cellsOf 5 = 1 := by kernel_rfl
theorem laid_tab {H : Type} : (Rows.laid_math_bits_deBruijn32tab : DataW H) = Lib.tabData .u8 (Lib.deBruijn32tab.map fun (n : Nat) => (n : Int)) := rfl

theorem tabG_of {rest : List (String × DataW Unit)} {W : World} (h : laidMetH Tryd.prog (("math/bits.deBruijn32tab", Rows.laid_math_bits_deBruijn32tab) :: rest) W)
    (hp : ((("math/bits.deBruijn32tab", Rows.laid_math_bits_deBruijn32tab) :: rest).all fun x => x.2.handleName?.isNone) = true) : TabG W := by
  rw [MakeChecks.laidMetH_plain _ _ _ hp, laid_tab] at h
  have ht := Lib.tabIs_of_head Tryd.gTab Tryd.tTab Tryd.underlying171 Tryd.underlying5 Tryd.cellsU8 Tryd.cells32 h
  intro j hj
  have := ht.cell Tryd.gTab j (by simp [Lib.deBruijn32tab]; omega)
  rw [this]
  congr 2
  simp [List.getD, List.getElem?_map]
  cases h : Lib.deBruijn32tab[j]? <;> simp
end Go.Proofs.YtbnbjiddffihoaaDoor
