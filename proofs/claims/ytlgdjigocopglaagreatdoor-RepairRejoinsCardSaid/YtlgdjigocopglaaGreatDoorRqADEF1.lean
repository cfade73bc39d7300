/- Shared texts. -/
import Derived.Test.YtlgdjigocopglaaGreatDoorRqAll19
import Derived.Test.YtlgdjigocopglaaGreatDoorRqABDEF1
set_option linter.unusedSimpArgs false
set_option linter.unusedVariables false

namespace Go.Proofs.YtlgdjigocopglaaGreatDoor
open Go.RowKit
set_option maxHeartbeats 1000000 in
theorem group_p {S : Nat → Prop} (a : Option Addr) (n cap : Nat) (l : List Nd) (h : Int) (v : Nat) (w : World) (hr : Rd 3 encN S w a n l) (hS : ∀ k, S k → k < w.heap.size) (hn : n ≤ 1000)
  (hw : ∀ x ∈ l, x.word < 4294967296) (hv : v < 4294967296) (hT : TabG w) :
  Calls Tryz.prog 108 #[.slice a n cap, .int .i64 h, .int .u32 v] w (NodesPost (groupN l h v) w) := by
 have hlen := hr.1
 have hlt := hT.lt
 have HT := lH hT
 have HL := lH hlen
 have HW := lH hw
 clear hT hlen hw
 go_enter Tryz.func108, Tryz.ntmps108
 go_wp2
 go_loopw [7, 12] (fun o i wr => GroupRel l h v w o i wr) (fun _ i _ => n - (intOf i).toNat)
 case atStart => exact ⟨0, by omega, rfl, OwnL.nil _ _ _ _ _, Chg.refl _ _⟩
 case round =>
  obtain ⟨k, hk, rfl, hown, hc⟩ := hrel
  obtain ⟨wo, rfl⟩ : ∃ wo : World, wo = wr := ⟨_, rfl⟩
  have hwo := hr.chg hc hS
  have hsz := hc.size
  have HT' := lH (HT.out.chg hc hlt)
  have hgl := groupN_length (l.take k) h v
  rw [List.length_take] at hgl
  have hkl := HL.out
  by_cases hlt' : k < n
  ·obtain ⟨x, o, y, rfl, hx, hy, hcell⟩ := hwo.at hlt'
   have e0 : wo.cell? ⟨x, o + k * 3, none⟩ = some (.int .i64 y.id) := hcell 0 _ rfl
   have e1 : wo.cell? ⟨x, o + k * 3 + 1, none⟩ = some (.string y.key) := hcell 1 _ rfl
   have e2 : wo.cell? ⟨x, o + k * 3 + 1 + 1, none⟩ = some (.int .u32 y.word) := by simpa [Nat.add_assoc] using hcell 2 _ rfl
   have hyw := HW.out y (List.mem_of_getElem? hy)
   have Hy := lH hy
   have hc1 := hc.alloc (.cells #[.int .i64 y.id, .string y.key, .int .u32 y.word] 56) (by intro k hk; omega)
   have hown1 := hown.alloc (.cells #[.int .i64 y.id, .string y.key, .int .u32 y.word] 56)
   have HT1 := lH (HT'.out.chg ((Chg.refl (· < wo.heap.size) wo).alloc (.cells #[.int .i64 y.id, .string y.key, .int .u32 y.word] 56) (by simp)) (by omega))
   clear hy hcell hr hwo hkl
   by_cases hs : sameN y.word v h = true
   ·go_wp2_with (first
     | (go_at_call 133; refine (same_p _ _ _ _ hyw hv HT1.out).mono ?_; rintro e w1 ⟨rfl, rfl⟩)
     | (at_builtin; go_loud (refine wpList_append_lit (enc := encN) (wo.alloc (.cells #[.int .i64 y.id, .string y.key, .int .u32 y.word] 56)) rfl _ _ 23 rfl w.heap.size 56 (.agg #[.int .i64 0, .string ByteArray.empty, .int .u32 0]) 3 32 Tryz.underlying23 Tryz.infoN rfl (by omega) (by omega) _ _ hown1 rfl y _ rfl rfl (by simp [encN, Value.oneCell']) _ (by simp) rfl (by omega) (by simp; omega) _ ?_); intro v' w3 hown3 _ hch3 hz3))
    go_roundw
    case rel => exact ⟨k + 1, by have := HL.out; omega, by go_num, by rw [groupN_snoc l h v k y Hy.out, if_pos hs]; exact hown3, hc1.then hch3 (fun _ h => h)⟩
    case measure => simp [intOf]; omega
   ·have hs : sameN y.word v h = false := by simpa using hs
    go_wp2_with (go_at_call 133; refine (same_p _ _ _ _ hyw hv HT1.out).mono ?_; rintro e w1 ⟨rfl, rfl⟩)
    go_roundw
    case rel => exact ⟨k + 1, by have := HL.out; omega, by go_num, by rw [groupN_snoc l h v k y Hy.out, if_neg (by simp [hs])]; exact hown1, hc1⟩
    case measure => simp [intOf]; omega
  ·obtain rfl : k = n := by omega
   rw [List.take_of_length_le (by omega)] at hown
   obtain ⟨a', cap', rfl, hrd, _⟩ := hown.rd (fun _ => rfl)
   clear hown hr hwo
   go_wp2
   go_ret
   exact ⟨a', _, cap', rfl, hrd, hc⟩
def nbStep (x : Nd) (s : Int × Int) (y : Nd) : Int × Int :=
 (if Op.bytesLess y.key.toList x.key.toList then y.id else s.1, if !(Op.bytesLess y.key.toList x.key.toList || y.key.toList == x.key.toList) && s.2 == 0 then y.id else s.2)
def nbFold (x : Nd) (G : List Nd) : Int × Int := G.foldl (nbStep x) (0, 0)
theorem nbFold_snoc (x : Nd) (G : List Nd) (k : Nat) (y : Nd) (hy : G[k]? = some y) : nbFold x (G.take (k + 1)) = nbStep x (nbFold x (G.take k)) y := by
 unfold nbFold
 rw [take_snocN G k y hy, List.foldl_append]
 rfl
theorem step_less {x y : Nd} {s : Int × Int} (h : Op.bytesLess y.key.toList x.key.toList = true) : nbStep x s y = (y.id, s.2) := by unfold nbStep; rw [h]; rfl
theorem step_same (x : Nd) (s : Int × Int) : nbStep x s x = s := by unfold nbStep; simp [bytesLess_irrefl]
theorem step_more {x y : Nd} {s : Int × Int} (h : Op.bytesLess x.key.toList y.key.toList = true) : nbStep x s y = (s.1, if s.2 = 0 then y.id else s.2) := by
 have h1 := bl_asymm h
 have h2 : (y.key.toList == x.key.toList) = false := by
  rw [beq_eq_false_iff_ne]
  intro he
  rw [he, bytesLess_irrefl] at h
  cases h
 unfold nbStep
 rw [h1, h2]
 simp
theorem nbFold_a {G : List Nd} (h : AscS G) {i : Nat} {x : Nd} (hx : G[i]? = some x) : ∀ k, k ≤ i → nbFold x (G.take k) = (leftN G k, 0) := by
 intro k
 induction k with
 | zero => intro _; rfl
 | succ k ih =>
  intro hk
  have hl := (List.getElem?_eq_some_iff.1 hx).1
  obtain ⟨y, hy⟩ : ∃ y, G[k]? = some y := ⟨G[k], List.getElem?_eq_getElem (by omega)⟩
  rw [nbFold_snoc x G k y hy, ih (by omega), step_less (asc_at h hy hx (by omega)).1]
  show ((y.id, 0) : Int × Int) = (leftN G (k + 1), 0)
  unfold leftN
  rw [if_neg (by omega), Nat.add_sub_cancel, hy]
  rfl
theorem nbFold_b {G : List Nd} (h : AscS G) {i : Nat} {x : Nd} (hx : G[i]? = some x) : nbFold x (G.take (i + 1)) = (leftN G i, 0) := by
 rw [nbFold_snoc x G i x hx, nbFold_a h hx i (Nat.le_refl _), step_same]
theorem nbFold_c {G : List Nd} (h : AscS G) (hid : ∀ y ∈ G, 1 ≤ y.id) {i : Nat} {x : Nd} (hx : G[i]? = some x) : ∀ d, i + 2 + d ≤ G.length → nbFold x (G.take (i + 2 + d)) = (leftN G i, rightN G i) := by
 intro d hd
 have hd0 : i + 1 < G.length := by omega
 obtain ⟨z, hz⟩ : ∃ z, G[i + 1]? = some z := ⟨G[i + 1], List.getElem?_eq_getElem hd0⟩
 have hz1 := hid z (List.mem_of_getElem? hz)
 have hr : rightN G i = z.id := by unfold rightN; rw [hz]; rfl
 induction d with
 | zero =>
  rw [Nat.add_zero, show i + 2 = i + 1 + 1 from rfl, nbFold_snoc x G (i + 1) z hz, nbFold_b h hx, step_more (asc_at h hx hz (by omega)).1, hr]
  rfl
 | succ d ih =>
  obtain ⟨y, hy⟩ : ∃ y, G[i + 2 + d]? = some y := ⟨G[i + 2 + d]'(by omega), List.getElem?_eq_getElem (by omega)⟩
  rw [← Nat.add_assoc, nbFold_snoc x G (i + 2 + d) y hy, ih (by omega), step_more (asc_at h hx hy (by omega)).1]
  show (leftN G i, if rightN G i = 0 then y.id else rightN G i) = _
  rw [if_neg (by rw [hr]; omega)]
theorem nbFold_all {G : List Nd} (h : AscS G) (hid : ∀ y ∈ G, 1 ≤ y.id) {i : Nat} {x : Nd} (hx : G[i]? = some x) : nbFold x G = (leftN G i, rightN G i) := by
 have hl := (List.getElem?_eq_some_iff.1 hx).1
 rcases Nat.lt_or_ge (i + 1) G.length with h1 | h1
 ·have := nbFold_c h hid hx (G.length - (i + 2)) (by omega)
  rwa [show i + 2 + (G.length - (i + 2)) = G.length by omega, List.take_length] at this
 ·have := nbFold_b h hx
  rw [show i + 1 = G.length by omega, List.take_length] at this
  rw [this]
  have : rightN G i = 0 := by unfold rightN; rw [List.getElem?_eq_none h1]; rfl
  rw [this]
theorem neighN_no {l : List Nd} {id h : Int} (hno : checkN l ≠ 0 ∨ (findN l id).2 = false ∨ lvlN h = false) : neighN l id h = ((0, 0), false) := by
 have ht : throughN l id h = ([], 0, false) := by
  unfold throughN
  rw [if_neg]
  rintro ⟨h1, h2, h3, _⟩
  rcases hno with h | h | h
  ·exact h (by simpa using h2)
  ·rw [h1] at h; cases h
  ·rw [h3] at h; cases h
 unfold neighN
 rw [ht]
 rfl
theorem nbFold_neigh {l : List Nd} {id h : Int} (h1 : checkN l = 0) (h2 : (findN l id).2 = true) (h3 : lvlN h = true) : neighN l id h = (nbFold (findN l id).1 (thrG l id h), true) := by
 obtain ⟨i, hi, _, hn⟩ := neighN_yes h1 h2 h3
 have hA : AscS (thrG l id h) := asc_group (sortN_str h1) h _
 have hid : ∀ y ∈ thrG l id h, 1 ≤ y.id := fun y hy => by
  unfold thrG groupN at hy
  have := (sortN_mem l y).1 (List.mem_filter.1 hy).1
  unfold checkN at h1
  split at h1
  ·omega
  ·split at h1
   ·omega
   ·rename_i hb
    have hb : badN y = false := by
     cases hy2 : badN y with
     | false => rfl
     | true => exact absurd (List.any_eq_true.2 ⟨y, this, hy2⟩) hb
    unfold badN at hb
    simp only [Bool.or_eq_false_iff, decide_eq_false_iff_not] at hb
    omega
 rw [hn, nbFold_all hA hid hi]
def NiRel (x : Nd) (G : List Nd) (g12 : Nat) (w : World) (i : Value) (wr : World) : Prop :=
 ∃ k : Nat, k ≤ G.length ∧ i = .int .i64 k ∧ Exb g12 w wr ∧ Blk wr g12 [.int .i64 (nbFold x (G.take k)).1, .int .i64 (nbFold x (G.take k)).2] 69
theorem ng_no {l : List Nd} {id h : Int} {w w' : World} (hno : neighN l id h = ((0, 0), false)) (k : Ex w w') : NgPost (neighN l id h) w (.returned (.tuple #[.agg #[.int .i64 0, .int .i64 0], .bool false])) w' := by
 rw [hno]; exact ⟨rfl, k⟩
set_option maxRecDepth 100000 in
set_option maxHeartbeats 2000000 in
theorem neigh_p (a : Option Addr) (n c : Nat) (l : List Nd) (id h : Int) (w : World) (hs : Sl 3 encN w a n l) (hn : n ≤ 1000) (hc : n ≤ c) (hm : c ≤ maxLen) (hw : ∀ x ∈ l, x.word < 4294967296) (hT : TabG w) :
  Calls Tryz.prog 66 #[.slice a n c, .int .i64 id, .int .i64 h] w (NgPost (neighN l id h) w) := by
 have HW := lH hw
 have HXW := findN_word hw id
 have HL := lH hs.len
 have k1 := Ex.new w (.cells #[.int .i64 0, .int .i64 0] 69)
 have B1 := Blk.new w [.int .i64 0, .int .i64 0] 69
 obtain ⟨w1, hw1⟩ : ∃ w1, w1 = w.alloc (.cells #[.int .i64 0, .int .i64 0] 69) := ⟨_, rfl⟩
 obtain ⟨g, hg⟩ : ∃ g, g = w.heap.size := ⟨_, rfl⟩
 have B1 : Blk w1 g [.int .i64 0, .int .i64 0] 69 := by rw [hw1, hg]; exact B1
 rw [← hw1] at k1
 have hgn : w.heap.size ≤ g := by omega
 have HW1 := lH hw1
 have HG := lH hg
 have S1 := hs.nx k1
 have HT := lH (hT.nx k1)
 clear hs hw1 hg hw hT
 go_enter Tryz.func66, Tryz.ntmps66
 go_upto_region 1 with fail
 rw [← HG.out, ← HW1.out]
 go_wp2_with fail
 (with_reducible refine (ordered_p _ _ _ _ _ S1 hn hc hm).mono ?_)
 rintro e w2 ⟨v, S, rfl, OS, ⟨hp, hsrt⟩, k2⟩
 have SL := lH hp.length_eq
 have HSR := lH hsrt
 have SW : Hid (∀ x ∈ S, x.word < 4294967296) := lH (fun x hx => HW.out x (hp.mem_iff.1 hx))
 replace S1 := S1.nx k2
 replace B1 := B1.nx k2
 replace HT := lH (HT.out.nx k2)
 replace k1 := k1.nx k2
 have OS := lH OS
 clear hp hsrt k2
 go_wp2_with fail
 (with_reducible refine (find_p _ _ _ _ _ _ S1 (by omega)).mono ?_)
 rintro e w3 ⟨rfl, k3⟩
 obtain ⟨F, hF⟩ : ∃ F, F = findN l id := ⟨_, rfl⟩
 have HF := lH hF
 rw [← hF] at HXW ⊢
 obtain ⟨⟨xi, xk, xw⟩, ok⟩ := F
 have k4 := Ex.new w3 (.cells #[.int .i64 xi, .string xk, .int .u32 xw] 56)
 have B2 := Blk.new w3 [.int .i64 xi, .string xk, .int .u32 xw] 56
 obtain ⟨w4, hw4⟩ : ∃ w4, w4 = w3.alloc (.cells #[.int .i64 xi, .string xk, .int .u32 xw] 56) := ⟨_, rfl⟩
 obtain ⟨g2, hg2⟩ : ∃ g2, g2 = w3.heap.size := ⟨_, rfl⟩
 have B2 : Blk w4 g2 [.int .i64 xi, .string xk, .int .u32 xw] 56 := by rw [hw4, hg2]; exact B2
 rw [← hw4] at k4
 have HW4 := lH hw4
 have HG2 := lH hg2
 replace k3 := k3.nx k4
 replace OS := lH (OS.out.nx k3)
 replace B1 := B1.nx k3
 replace HT := lH (HT.out.nx k3)
 replace k1 := k1.nx k3
 clear hF hw4 hg2 k4 k3 S1
 simp only [Nd.val]
 go_upto_region 3 with fail
 rw [← HG2.out, ← HW4.out]
 by_cases hck : checkN l = 0
 case neg =>
  have HNO : Hid (neighN l id h = ((0, 0), false)) := lH (neighN_no (.inl hck))
  have d1 : (checkN l == 0) = false := by simpa using hck
  rw [d1]
  have q0 := B1.cell 0 _ rfl
  have q1 := B1.cell 1 _ rfl
  have z0 := B1.free 0
  have z1 := B1.free 1
  clear hck d1 B2
  go_wp2_with fail
  refine bodyPost_ret (v := .tuple #[.agg #[.int .i64 0, .int .i64 0], .bool false]) (by simp [results, Tryz.results66, go_sem, *]) rfl (ng_no HNO.out ?_)
  exact (k1.setNew (p := ⟨g, 0, none⟩) _ hgn).setNew (p := ⟨g, 1, none⟩) _ hgn
 have HCK := lH hck
 have d1 : (checkN l == 0) = true := by simpa using hck
 rw [d1]
 clear hck d1
 cases ok with
 | false =>
  have HNO : Hid (neighN l id h = ((0, 0), false)) := lH (neighN_no (.inr (.inl (by rw [← HF.out]))))
  have q0 := B1.cell 0 _ rfl
  have q1 := B1.cell 1 _ rfl
  have z0 := B1.free 0
  have z1 := B1.free 1
  clear B2
  go_wp2_with fail
  refine bodyPost_ret (v := .tuple #[.agg #[.int .i64 0, .int .i64 0], .bool false]) (by simp [results, Tryz.results66, go_sem, *]) rfl (ng_no HNO.out ?_)
  exact (k1.setNew (p := ⟨g, 0, none⟩) _ hgn).setNew (p := ⟨g, 1, none⟩) _ hgn
 | true =>
  by_cases hlo : h < 0
  ·have HNO : Hid (neighN l id h = ((0, 0), false)) := lH (neighN_no (.inr (.inr (by unfold lvlN; simp; omega))))
   have q0 := B1.cell 0 _ rfl
   have q1 := B1.cell 1 _ rfl
   have z0 := B1.free 0
   have z1 := B1.free 1
   clear B2
   go_wp2_with fail
   refine bodyPost_ret (v := .tuple #[.agg #[.int .i64 0, .int .i64 0], .bool false]) (by simp [results, Tryz.results66, go_sem, *]) rfl (ng_no HNO.out ?_)
   exact (k1.setNew (p := ⟨g, 0, none⟩) _ hgn).setNew (p := ⟨g, 1, none⟩) _ hgn
  ·by_cases hhi : 16 < h
   ·have HNO : Hid (neighN l id h = ((0, 0), false)) := lH (neighN_no (.inr (.inr (by unfold lvlN; simp; omega))))
    have q0 := B1.cell 0 _ rfl
    have q1 := B1.cell 1 _ rfl
    have z0 := B1.free 0
    have z1 := B1.free 1
    clear B2
    go_wp2_with fail
    refine bodyPost_ret (v := .tuple #[.agg #[.int .i64 0, .int .i64 0], .bool false]) (by simp [results, Tryz.results66, go_sem, *]) rfl (ng_no HNO.out ?_)
    exact (k1.setNew (p := ⟨g, 0, none⟩) _ hgn).setNew (p := ⟨g, 1, none⟩) _ hgn
   ·have HYES : Hid (neighN l id h = (nbFold ⟨xi, xk, xw⟩ (groupN S h xw), true)) := lH (by
     have := nbFold_neigh (l := l) (id := id) (h := h) HCK.out (by rw [← HF.out]) (by unfold lvlN; simp; omega)
     unfold thrG at this
     rw [← HF.out, ← HSR.out HCK.out] at this
     exact this)
    have k5 := Ex.new w4 (.cells #[.int .i64 0, .int .i64 0] 69)
    have B3 := Blk.new w4 [.int .i64 0, .int .i64 0] 69
    obtain ⟨w5, hw5⟩ : ∃ w5, w5 = w4.alloc (.cells #[.int .i64 0, .int .i64 0] 69) := ⟨_, rfl⟩
    obtain ⟨g3, hg3⟩ : ∃ g3, g3 = w4.heap.size := ⟨_, rfl⟩
    have B3 : Blk w5 g3 [.int .i64 0, .int .i64 0] 69 := by rw [hw5, hg3]; exact B3
    rw [← hw5] at k5
    have h13 : g ≠ g3 := by have := B1.lt; omega
    have h23 : g2 ≠ g3 := by have := B2.lt; omega
    have hgn3 : w.heap.size ≤ g3 := by have := k1.size; omega
    have HW5 := lH hw5
    have HG3 := lH hg3
    replace OS := OS.out.nx k5
    replace B1 := B1.nx k5
    replace B2 := B2.nx k5
    replace HT := lH (HT.out.nx k5)
    replace k1 := k1.nx k5
    obtain ⟨aS, cS, rfl, sS, _, _⟩ := OS.sl3 (fun _ => rfl)
    have b22 := B2.cell 2 _ rfl
    have hnS : S.length ≤ 1000 := by have := HL.out; have := SL.out; omega
    clear hw5 hg3 k5
    go_upto_region 6 with fail
    rw [← HG3.out, ← HW5.out]
    clear OS
    have sS : Rd 3 encN (· < w5.heap.size) w5 aS S.length S := sS
    go_wp2_with fail
    (with_reducible refine (group_p _ _ _ _ _ _ _ sS (fun _ hk => hk) hnS SW.out HXW HT.out).mono ?_)
    rintro e w6 ⟨a6, n6, c6, rfl, r6, k6⟩
    have r6 : Slf 3 encN w5 w6 a6 n6 _ := r6
    replace k6 : Ex w5 w6 := k6
    have hgl := groupN_length S h xw
    generalize groupN S h xw = G at r6 HYES hgl ⊢
    have RG := lH (r6.slb B3.lt)
    have hng := r6.len
    subst hng
    replace B1 := B1.nx k6
    replace B2 := lH (B2.nx k6)
    replace B3 := B3.nx k6
    replace k1 := k1.nx k6
    have B1 := lH B1
    clear r6 k6 sS b22
    have hG6 : G.length ≤ 1000 := by omega
    go_wp2_with fail
    go_loopw [47] (fun i wr => NiRel ⟨xi, xk, xw⟩ G g3 w6 i wr) (fun i _ => G.length - (intOf i).toNat)
    case atStart => exact ⟨0, by omega, rfl, Exb.refl _ _, B3⟩
    case round =>
     obtain ⟨k, hk, rfl, kw, B3⟩ := hrel
     obtain ⟨wo, rfl⟩ : ∃ wo : World, wo = wr := ⟨_, rfl⟩
     by_cases hlt : k < G.length
     ·obtain ⟨x1, o1, y, rfl, hx1, hy, hc1⟩ := ((RG.out.nxb kw).sl).at hlt
      obtain ⟨yi, yk, yw⟩ := y
      have e0 : wo.cell? ⟨x1, o1 + k * 3, none⟩ = some (.int .i64 yi) := hc1 0 _ rfl
      have e1 : wo.cell? ⟨x1, o1 + k * 3 + 1, none⟩ = some (.string yk) := hc1 1 _ rfl
      have e2 : wo.cell? ⟨x1, o1 + k * 3 + 2, none⟩ = some (.int .u32 yw) := hc1 2 _ rfl
      have e2' : wo.cell? ⟨x1, o1 + k * 3 + 1 + 1, none⟩ = some (.int .u32 yw) := e2
      have FSn : Hid (nbFold ⟨xi, xk, xw⟩ (G.take (k + 1)) = nbStep ⟨xi, xk, xw⟩ (nbFold ⟨xi, xk, xw⟩ (G.take k)) ⟨yi, yk, yw⟩) := lH (nbFold_snoc _ _ _ _ hy)
      clear hy hc1
      obtain ⟨FF, hFF⟩ : ∃ FF, FF = nbFold ⟨xi, xk, xw⟩ (G.take k) := ⟨_, rfl⟩
      rw [← hFF] at B3 FSn
      clear hFF
      obtain ⟨f1, f2⟩ := FF
      have k7 := Ex.new wo (.cells #[.int .i64 yi, .string yk, .int .u32 yw] 56)
      have B4 := Blk.new wo [.int .i64 yi, .string yk, .int .u32 yw] 56
      obtain ⟨w7, hw7⟩ : ∃ w7, w7 = wo.alloc (.cells #[.int .i64 yi, .string yk, .int .u32 yw] 56) := ⟨_, rfl⟩
      obtain ⟨g4, hg4⟩ : ∃ g4, g4 = wo.heap.size := ⟨_, rfl⟩
      have B4 : Blk w7 g4 [.int .i64 yi, .string yk, .int .u32 yw] 56 := by rw [hw7, hg4]; exact B4
      rw [← hw7] at k7
      have h34 : g3 ≠ g4 := by have := B3.lt; omega
      have HW7 := lH hw7
      have HG4 := lH hg4
      have B3 := B3.nx k7
      have kw := kw.nxb (k7.b g3)
      have B2' := B2.out.nxb h23 kw
      clear hw7 hg4 k7
      go_upto_region 9 with fail
      rw [← HG4.out, ← HW7.out]
      clear e0 e1 e2 e2'
      have p1 := B2'.cell 1 _ rfl
      have y0 := B4.cell 0 _ rfl
      have y1 := B4.cell 1 _ rfl
      have t0 := B3.cell 0 _ rfl
      have t1 := B3.cell 1 _ rfl
      have z0 := B3.free 0
      have z1 := B3.free 1
      cases hb : Op.bytesLess yk.toList xk.toList with
      | true =>
       have FSn' : Hid (nbFold ⟨xi, xk, xw⟩ (G.take (k + 1)) = (yi, f2)) := lH (by rw [FSn.out]; exact step_less hb)
       have B3' := B3.set 0 (.int .i64 yi)
       clear B2' B4 B3
       go_wp2_with fail
       refine ⟨⟨k + 1, by omega, by go_num, kw.setB _ rfl, ?_⟩, by simp [intOf]; omega⟩
       rw [FSn'.out]; exact B3'
      | false =>
       cases he : (yk.toList == xk.toList) with
       | true =>
        have FSn' : Hid (nbFold ⟨xi, xk, xw⟩ (G.take (k + 1)) = (f1, f2)) := lH (by rw [FSn.out]; unfold nbStep; simp [hb, he])
        have B3' := lH B3
        clear B2' B4 B3
        go_wp2_with fail
        refine ⟨⟨k + 1, by omega, by go_num, kw, ?_⟩, by simp [intOf]; omega⟩
        rw [FSn'.out]; exact B3'.out
       | false =>
        by_cases h0 : f2 = 0
        ·have FSn' : Hid (nbFold ⟨xi, xk, xw⟩ (G.take (k + 1)) = (f1, yi)) := lH (by rw [FSn.out]; unfold nbStep; simp [hb, he, h0])
         have B3' := B3.set 1 (.int .i64 yi)
         subst h0
         clear B2' B4 B3
         go_wp2_with fail
         refine ⟨⟨k + 1, by omega, by go_num, kw.setB _ rfl, ?_⟩, by simp [intOf]; omega⟩
         rw [FSn'.out]; exact B3'
        ·have FSn' : Hid (nbFold ⟨xi, xk, xw⟩ (G.take (k + 1)) = (f1, f2)) := lH (by rw [FSn.out]; unfold nbStep; simp [hb, he, h0])
         have d0 : (f2 == 0) = false := by simpa using h0
         have B3' := lH B3
         clear B2' B4 B3
         go_wp2_with fail
         refine ⟨⟨k + 1, by omega, by go_num, kw, ?_⟩, by simp [intOf]; omega⟩
         rw [FSn'.out]; exact B3'.out
     ·obtain rfl : k = G.length := by omega
      rw [List.take_length] at B3
      have B1' := B1.out.nxb h13 kw
      have kw' := k1.nx (Ex.refl _)
      have KK : Ex w wo := (Chg.trans k1 (Chg.mono kw (fun q (hq : q < w.heap.size) => ⟨Nat.lt_of_lt_of_le hq k1.size, by omega⟩)))
      obtain ⟨FF, hFF⟩ : ∃ FF, FF = nbFold ⟨xi, xk, xw⟩ G := ⟨_, rfl⟩
      rw [← hFF] at B3
      have HYES' : Hid (neighN l id h = (FF, true)) := lH (by rw [HYES.out, hFF])
      clear hFF HYES
      obtain ⟨f1, f2⟩ := FF
      have t0 := B3.cell 0 _ rfl
      have t1 := B3.cell 1 _ rfl
      have q0 := B1'.cell 0 _ rfl
      have q1 := B1'.cell 1 _ rfl
      have z0 := B1'.free 0
      have z1 := B1'.free 1
      clear B1' B3 hk hlt kw'
      have h13' : ¬ g = g3 := h13
      go_wp2_with fail
      refine bodyPost_ret (v := .tuple #[.agg #[.int .i64 f1, .int .i64 f2], .bool true]) (by simp [results, Tryz.results66, go_sem, *]) rfl ⟨by rw [HYES'.out], ?_⟩
      exact (KK.setNew (p := ⟨g, 0, none⟩) _ hgn).setNew (p := ⟨g, 1, none⟩) _ hgn
theorem check_perm {l l' : List Nd} (hp : l'.Perm l) (h : checkN l = 0) : checkN l' = 0 := by
 have hk := check_keys h
 unfold checkN at h ⊢
 split at h
 ·omega
 rename_i hlen
 split at h
 ·omega
 rename_i hbad
 rw [if_neg (by rw [hp.length_eq]; exact hlen), if_neg (by
  intro hb
  obtain ⟨x, hx, hxb⟩ := List.any_eq_true.1 hb
  exact hbad (List.any_eq_true.2 ⟨x, hp.mem_iff.1 hx, hxb⟩)), if_neg]
 intro hd
 obtain ⟨i, k, x, y, hki, hx, hy, he⟩ := (dupN_iff _).1 hd
 have h2 : l'.Pairwise fun x y => x.key.toList ≠ y.key.toList ∧ x.id ≠ y.id :=
  (hp.symm.pairwise_iff (fun {x y} hxy => ⟨fun he => hxy.1 he.symm, fun he => hxy.2 he.symm⟩)).1 (keys_pw hk)
 obtain ⟨hi, e1⟩ := List.getElem?_eq_some_iff.1 hx
 obtain ⟨hk, e2⟩ := List.getElem?_eq_some_iff.1 hy
 have := List.pairwise_iff_getElem.1 h2 k i hk hi hki
 rw [e1, e2] at this
 unfold eqN at he
 rcases Bool.or_eq_true_iff.1 he with h1 | h1
 ·exact this.2 (by simpa using (beq_iff_eq.1 h1).symm)
 ·exact this.1 (beq_iff_eq.1 h1).symm
theorem sort_perm {l l' : List Nd} (hp : l'.Perm l) (h : checkN l = 0) : sortN l' = sortN l :=
 sortN_unique (check_keys h) ((sortN_perm l').trans hp) (sortN_asc l')
theorem grp_at {l : List Nd} {x : Nd} (hx : x ∈ l) {h : Int} (hl : lvlN h = true) : ∃ A B, grpS l h x.word = A ++ x :: B := by
 have : x ∈ grpS l h x.word := grp_mem.2 ⟨hx, sameN_refl _ (by unfold lvlN at hl; simp at hl; exact hl.2)⟩
 exact List.append_of_mem this
section
variable {N : List Nd}
def bitIs (i b : Nat) (y : Nd) : Bool := bitN y.word i == b
theorem grp_parts (h0 : checkN N = 0) {i : Int} {v : Nat} {A B : List Nd} {x : Nd} (e : grpS N i v = A ++ x :: B) : (∀ z ∈ A, z ∈ N ∧ z.id ≠ x.id) ∧ (∀ z ∈ B, z ∈ N ∧ z.id ≠ x.id) := by
 have ha := grp_asc h0 i v
 rw [e] at ha
 have h1 := List.pairwise_append.1 ha
 have hm : ∀ z ∈ A ++ x :: B, z ∈ N := fun z hz => (grp_mem.1 (by rw [e]; exact hz)).1
 exact ⟨fun z hz => ⟨hm z (by simp [hz]), (h1.2.2 z hz x (by simp)).2⟩, fun z hz => ⟨hm z (by simp [hz]), (((List.pairwise_cons.1 h1.2.1).1 z hz).2).symm⟩⟩
end
section
variable {N : List Nd}
def nearG (N : List Nd) (x : Nd) (i : Nat) : Nr :=
 (lastI (((grpS N i x.word).takeWhile fun y => !(y.id == x.id)).filter (bitIs i 0)), lastI (((grpS N i x.word).takeWhile fun y => !(y.id == x.id)).filter (bitIs i 1)),
  headI ((((grpS N i x.word).dropWhile fun y => !(y.id == x.id)).drop 1).filter (bitIs i 0)), headI ((((grpS N i x.word).dropWhile fun y => !(y.id == x.id)).drop 1).filter (bitIs i 1)))
theorem nearG_at (h0 : checkN N = 0) {x : Nd} {i : Nat} {A B : List Nd} (e : grpS N i x.word = A ++ x :: B) : nearG N x i = (lastI (A.filter (bitIs i 0)), lastI (A.filter (bitIs i 1)), headI (B.filter (bitIs i 0)), headI (B.filter (bitIs i 1))) := by
 obtain ⟨hA, _⟩ := grp_parts h0 e
 have h1 : (A ++ x :: B).takeWhile (fun y => !(y.id == x.id)) = A := by
  rw [List.takeWhile_append_of_pos (fun y hy => by simpa using (hA y hy).2), List.takeWhile_cons_of_neg (by simp), List.append_nil]
 have h2 : (A ++ x :: B).dropWhile (fun y => !(y.id == x.id)) = x :: B := by
  rw [List.dropWhile_append_of_pos (fun y hy => by simpa using (hA y hy).2), List.dropWhile_cons_of_neg (by simp)]
 unfold nearG
 rw [e, h1, h2]
 rfl
end
def besideN (g : List Nd) (k : Nat) (m : Int) : List Int := (g.zipIdx.filter fun q => decide (q.2 ≠ k) && decide ((q.2 : Int) - k ≤ m) && decide ((k : Int) - q.2 ≤ m)).map fun q => q.1.id
def contactsN (N : List Nd) (id width height : Int) : List Int :=
 if width < 1 ∨ lvlN height = false ∨ checkN N ≠ 0 then [] else ordN N ((List.range (height.toNat + 1)).flatMap fun (h : Nat) => besideN (throughN N id h).1 (throughN N id h).2.1 width) id
def peerC (N : List Nd) (width height : Int) (x : Nd) : Pr :=
 ⟨x.id, (neighN (sortN N) x.id 0).1.1, (neighN (sortN N) x.id 0).1.2, contactsN (sortN N) x.id width height, (List.range height.toNat).map (nearG (sortN N) x)⟩
def peersN (N : List Nd) (width height : Int) : List Pr := if checkN N = 0 ∧ lvlN height = true then (sortN N).map (peerC N width height) else []
theorem mem_beside {g : List Nd} {k : Nat} {m v : Int} : v ∈ besideN g k m ↔ ∃ j y, g[j]? = some y ∧ j ≠ k ∧ (j : Int) - k ≤ m ∧ (k : Int) - j ≤ m ∧ y.id = v := by
 unfold besideN
 rw [List.mem_map]
 constructor
 ·rintro ⟨⟨y, j⟩, h1, rfl⟩
  obtain ⟨h2, h3⟩ := List.mem_filter.1 h1
  have h4 := List.mem_zipIdx_iff_getElem?.1 h2
  simp only [Bool.and_eq_true, decide_eq_true_eq] at h3
  exact ⟨j, y, h4, h3.1.1, h3.1.2, h3.2, rfl⟩
 ·rintro ⟨j, y, h1, h2, h3, h4, rfl⟩
  refine ⟨(y, j), List.mem_filter.2 ⟨List.mem_zipIdx_iff_getElem?.2 h1, ?_⟩, rfl⟩
  simp only [Bool.and_eq_true, decide_eq_true_eq]
  exact ⟨⟨h2, h3⟩, h4⟩
section
variable {N : List Nd}
theorem thr_at (h0 : checkN N = 0) {x : Nd} (hx : x ∈ N) {h : Nat} (hh : h ≤ 16) : throughN N x.id h = (grpS N h x.word, idxI (grpS N h x.word) x.id, true) ∧ (grpS N h x.word)[idxI (grpS N h x.word) x.id]? = some x := by
 have hf := find_in h0 hx
 have hG : thrG N x.id h = grpS N h x.word := by unfold thrG; rw [hf]; rfl
 obtain ⟨A, B, e⟩ := grp_at hx (h := (h : Int)) (by unfold lvlN; simp; omega)
 have hi : idxI (grpS N h x.word) x.id = A.length := by
  have ha := grp_asc h0 (h : Int) x.word
  rw [e] at ha ⊢
  exact idxI_at ha (i := A.length) (x := x) (by simp)
 have hat : (grpS N h x.word)[idxI (grpS N h x.word) x.id]? = some x := by rw [hi, e]; simp
 refine ⟨?_, hat⟩
 unfold throughN
 rw [hG, if_pos ⟨by rw [hf], by rw [h0]; rfl, by unfold lvlN; simp; omega, (List.getElem?_eq_some_iff.1 hat).1⟩]
theorem thr_no {id : Int} (h : ∀ x ∈ N, x.id ≠ id) (l : Int) : throughN N id l = ([], 0, false) := by
 unfold throughN
 rw [if_neg]
 rintro ⟨h1, _⟩
 rw [findN_none fun j z _ hz => h z (List.mem_of_getElem? hz)] at h1
 cases h1
theorem grp_uniq (h0 : checkN N = 0) {i : Int} {v k j : Nat} {x y : Nd} (hk : (grpS N i v)[k]? = some x) (hj : (grpS N i v)[j]? = some y) (he : x.id = y.id) : k = j := by
 have := idxI_at (grp_asc h0 i v) hk
 have := idxI_at (grp_asc h0 i v) hj
 rw [he] at *
 omega
theorem contacts_sort (h0 : checkN N = 0) (id w h : Int) : contactsN (sortN N) id w h = contactsN N id w h := by
 have hs : sortN (sortN N) = sortN N := sort_perm (sortN_perm N) h0
 have hc : checkN (sortN N) = checkN N := by rw [check_perm (sortN_perm N) h0, h0]
 have ht : ∀ (i : Nat), throughN (sortN N) id i = throughN N id i := by
  intro i
  by_cases hx : ∃ x ∈ N, x.id = id
  ·obtain ⟨x, hx, rfl⟩ := hx
   unfold throughN thrG
   rw [find_in h0 hx, find_in (hc.trans h0) ((sortN_mem N x).2 hx), hs, hc]
  ·rw [thr_no (fun x hx' he => hx ⟨x, hx', he⟩), thr_no (fun x hx' he => hx ⟨x, (sortN_mem N x).1 hx', he⟩)]
 unfold contactsN ordN
 simp only [ht, hs, hc]
end
end Go.Proofs.YtlgdjigocopglaaGreatDoor
namespace Go.Proofs.YtlgdjigocopglaaGreatDoor
open Go.RowKit Go.Maps
def ascN (S : List Nd) (M : List Int) : List Int := (S.filter fun x => M.contains x.id).map Nd.id
def AscRel (S : List Nd) (M : List Int) (w : World) (o i : Value) (wr : World) : Prop :=
 ∃ j : Nat, j ≤ S.length ∧ i = .int .i64 j ∧ OwnL 1 encI 3 w.heap.size wr o (ascN (S.take j) M) ∧ Ex w wr
theorem asc_snoc {S : List Nd} {M : List Int} {j : Nat} {y : Nd} (hy : S[j]? = some y) : ascN (S.take (j + 1)) M = ascN (S.take j) M ++ (if M.contains y.id = true then [y.id] else []) := by
 unfold ascN
 rw [List.take_add_one, hy, List.filter_append, List.map_append]
 congr 1
 by_cases hp : M.contains y.id = true
 ·rw [if_pos hp]; simp only [Option.toList_some, List.filter_cons, hp, if_true, List.filter_nil, List.map_cons, List.map_nil]
 ·rw [if_neg hp]; simp only [Option.toList_some, List.filter_cons, hp, List.filter_nil, List.map_nil]; rfl
theorem Tryz.zeroB (w : World) : (zeroValue 4).run Tryz.prog w = .ok (.bool false) w := by kernel_rfl
set_option maxRecDepth 100000 in
set_option maxHeartbeats 2000000 in
theorem ascending_p (a : Option Addr) (n c : Nat) (N : List Nd) (bm : Nat) (M : List Int) (w : World) (h : Sl 3 encN w a n N) (hn : n ≤ 1000) (h0 : checkN N = 0) (hM : SetM Tryz.prog 3 4 w bm M) :
  Calls Tryz.prog 110 #[.slice a n c, .map (some bm)] w (OiPost (ascN (sortN N) M) w) := by
 have HL := lH h.len
 have HC := lH h0
 have HR := lH (fun x (hx : x ∈ N) => (roster_ok h0 x hx).1.1)
 clear h0
 go_enter Tryz.func110, Tryz.ntmps110
 go_wp2_with fail
 (with_reducible refine (sort_p _ _ _ _ _ h hn).mono ?_)
 rintro e w1 ⟨v, S, rfl, OS, ⟨hp, hsrt⟩, kk⟩
 replace hM := hM.nx kk
 have hSe : S = sortN N := sortN_unique (check_keys HC.out) hp hsrt
 subst hSe
 obtain ⟨a1, c1, rfl, S1, _, _⟩ := sorted_own HC.out OS
 rw [HL.out] at S1 ⊢
 have HI : Hid (∀ x ∈ sortN N, I64 x.id) := lH (fun x hx => HR.out x ((sortN_mem N x).1 hx))
 have hSl : (sortN N).length ≤ n := by rw [S1.len]; omega
 obtain ⟨S, hS⟩ : ∃ S, S = sortN N := ⟨_, rfl⟩
 rw [← hS] at S1 hSl HI ⊢
 have ES : Hid (ascN (sortN N) M = ascN S M) := lH (by rw [hS])
 clear hS
 have HSL := lH S1.len
 have S1 := lH S1
 have HM := lH hM
 have K1 := lH kk
 have hz1 := kk.size
 clear h OS hM kk hp hsrt HR
 go_wp2_with fail
 go_loopw [5, 11] (fun o i wr => AscRel S M w1 o i wr) (fun _ i _ => n - (intOf i).toNat)
 case atStart => exact ⟨0, by omega, rfl, OwnL.nil _ _ _ _ _, Ex.refl _⟩
 case round =>
  obtain ⟨j, hj, rfl, own, ki⟩ := hrel
  obtain ⟨wi, rfl⟩ : ∃ wi : World, wi = wr := ⟨_, rfl⟩
  by_cases hjm : j < n
  ·obtain ⟨x3, o3, y, rfl, hx3, hy, hc3⟩ := (S1.out.nx ki).at hjm
   have e0 : wi.cell? ⟨x3, o3 + j * 3, none⟩ = some (.int .i64 y.id) := hc3 0 _ rfl
   have e1 : wi.cell? ⟨x3, o3 + j * 3 + 1, none⟩ = some (.string y.key) := hc3 1 _ rfl
   have e2 : wi.cell? ⟨x3, o3 + j * 3 + 1 + 1, none⟩ = some (.int .u32 y.word) := by simpa [Nat.add_assoc] using hc3 2 _ rfl
   have SN := lH (asc_snoc (M := M) hy)
   have hrl : (ascN (S.take j) M).length ≤ 1000 := by
    unfold ascN
    rw [List.length_map]
    have := List.length_filter_le (fun x => M.contains x.id) (S.take j)
    rw [List.length_take] at this
    omega
   have hyi := HI.out y (List.mem_of_getElem? hy)
   generalize ascN (S.take j) M = row at own SN hrl
   have KI := lH ki
   clear hy hc3 ki
   have B7 := Blk.new wi [.int .i64 y.id, .string y.key, .int .u32 y.word] 56
   have kk := Ex.new wi (.cells #[.int .i64 y.id, .string y.key, .int .u32 y.word] 56)
   obtain ⟨w7, hw7⟩ : ∃ w7, w7 = wi.alloc (.cells #[.int .i64 y.id, .string y.key, .int .u32 y.word] 56) := ⟨_, rfl⟩
   obtain ⟨g7, hg7⟩ : ∃ g7, g7 = wi.heap.size := ⟨_, rfl⟩
   replace B7 : Blk w7 g7 [.int .i64 y.id, .string y.key, .int .u32 y.word] 56 := by rw [hw7, hg7]; exact B7
   rw [← hw7] at kk
   have Hw7 := lH hw7
   have Hg7 := lH hg7
   replace own := own.nx kk
   have k7 := KI.out.nx kk
   have hz7 := k7.size
   have K7 := lH k7
   clear kk hw7 hg7 k7
   go_upto_region 5 with fail
   rw [← Hg7.out, ← Hw7.out]
   clear Hg7 Hw7
   have q0 := B7.cell 0 _ rfl
   have hv : (Lit.int .i64 y.id).wf = true := wf_of hyi
   have lk := SetM.get (t := 91) (HM.out.nx K7.out) Tryz.underlying3 Tryz.underlying4 Tryz.underlying91 (Tryz.zeroB _) hv
   have OWN := lH own
   generalize y.id = yi at SN q0 lk B7
   clear e0 e1 e2 own hyi hv
   generalize M.contains yi = inl at SN lk
   cases inl with
   | false =>
    clear B7
    go_wp2_with fail
    exact ⟨⟨j + 1, by rw [HSL.out]; omega, by go_num, by rw [SN.out]; simpa using OWN.out, K7.out⟩, by simp [intOf]; omega⟩
   | true =>
    have own7 := OWN.out
    have hl7 : row.length ≤ 1000000 := by omega
    clear B7
    go_wp2_with (at_builtin; (refine wpList_append_lit (enc := encI) w7 rfl _ _ 22 rfl w1.heap.size 3 (.int .i64 0) 1 8 Tryz.underlying22 Tryz.infoI6 rfl (by omega) (by omega) _ _ own7 rfl (yi : Int) _ rfl rfl (by simp [encI, Value.oneCell']) _ (by simp) rfl hl7 hz7 _ ?_); intro v6 w6 own6 _ ch1 _)
    refine ⟨⟨j + 1, by rw [HSL.out]; omega, by go_num, by rw [SN.out]; exact own6, Chg.trans K7.out ch1⟩, by simp [intOf]; omega⟩
  ·obtain rfl : j = n := by have := HSL.out; omega
   rw [List.take_of_length_le (by rw [HSL.out]; exact Nat.le_refl _)] at own
   have own := lH (own.base hz1)
   have KE := lH (K1.out.nx ki)
   clear hj hjm ki
   go_wp2_with fail
   go_ret
   exact ⟨_, rfl, by rw [ES.out]; exact own.out, KE.out⟩
end Go.Proofs.YtlgdjigocopglaaGreatDoor
namespace Go.Proofs.YtlgdjigocopglaaGreatDoor
open Go.RowKit Go.Maps
set_option maxRecDepth 100000 in
set_option maxHeartbeats 2000000 in
theorem index_n (a : Option Addr) (n c : Nat) (l : List Nd) (x : Nd) (k0 : Nat) (w : World) (h : Sl 3 encN w a n l) (hn : n ≤ 1000) (hk0 : l[k0]? = some x) (hno : ∀ j z, j < k0 → l[j]? = some z → z.id ≠ x.id) :
  Calls Tryz.prog 109 #[.slice a n c, .agg #[.int .i64 x.id, .string x.key, .int .u32 x.word]] w fun e w' => e = .returned (.int .i64 k0) ∧ Ex w w' := by
 have HNO := lH hno
 have HK0 := lH hk0
 have hk0n : k0 < n := by have := (List.getElem?_eq_some_iff.1 hk0).1; have := h.len; omega
 have EX := Ex.refl w
 have B3 := Blk.new w [.int .i64 x.id, .string x.key, .int .u32 x.word] 56
 have kk := Ex.new w (.cells #[.int .i64 x.id, .string x.key, .int .u32 x.word] 56)
 obtain ⟨w1, hw1⟩ : ∃ w1, w1 = w.alloc (.cells #[.int .i64 x.id, .string x.key, .int .u32 x.word] 56) := ⟨_, rfl⟩
 obtain ⟨g3, hg3⟩ : ∃ g3, g3 = w.heap.size := ⟨_, rfl⟩
 replace B3 : Blk w1 g3 [.int .i64 x.id, .string x.key, .int .u32 x.word] 56 := by rw [hw1, hg3]; exact B3
 rw [← hw1] at kk
 have Hw1 := lH hw1
 have Hg3 := lH hg3
 replace h := h.nx kk
 replace EX := EX.nx kk
 clear kk hw1 hg3
 have HS := lH h
 have EX := lH EX
 clear hno hk0 h
 go_enter Tryz.func109, Tryz.ntmps109
 go_upto_region 1 with fail
 rw [← Hg3.out, ← Hw1.out]
 clear Hg3 Hw1
 have HB := lH B3
 clear B3
 go_wp2_with fail
 go_loopw [8] (fun i wr => ∃ j : Nat, j ≤ k0 ∧ i = .int .i64 j ∧ Ex w1 wr) (fun i _ => n - (intOf i).toNat)
 case atStart => exact ⟨0, by omega, rfl, Ex.refl _⟩
 case round =>
  obtain ⟨j, hj, rfl, kw⟩ := hrel
  obtain ⟨wo, rfl⟩ : ∃ wo : World, wo = wr := ⟨_, rfl⟩
  obtain ⟨x1, o1, y, rfl, hx1, hy, hc1⟩ := (HS.out.nx kw).at (j := j) (by omega)
  have e0 : wo.cell? ⟨x1, o1 + j * 3, none⟩ = some (.int .i64 y.id) := hc1 0 _ rfl
  have e1 : wo.cell? ⟨x1, o1 + j * 3 + 1, none⟩ = some (.string y.key) := hc1 1 _ rfl
  have e2 : wo.cell? ⟨x1, o1 + j * 3 + 1 + 1, none⟩ = some (.int .u32 y.word) := by simpa [Nat.add_assoc] using hc1 2 _ rfl
  have B := HB.out.nx kw
  have q0 := B.cell 0 _ rfl
  have q1 := B.cell 1 _ rfl
  have q2 := B.cell 2 _ rfl
  have KW := lH (EX.out.nx kw)
  have KV := lH kw
  by_cases hlt : j = k0
  ·subst hlt
   obtain rfl : y = x := Option.some.inj (hy.symm.trans HK0.out)
   clear hc1 hy kw B
   go_wp2_with fail
   go_quiet (fail)
   go_wp2_with fail
   go_ret
   exact ⟨rfl, KW.out.drewN _⟩
  ·have hb : (x.id == y.id) = false := by
    have := HNO.out j y (by omega) hy
    rw [beq_eq_false_iff_ne]
    exact fun h => this h.symm
   clear hc1 hy kw B
   go_wp2_with fail
   go_quiet (fail)
   go_wp2_with fail
   exact ⟨⟨j + 1, by omega, by go_num, KV.out.drewN _⟩, by simp [intOf]; omega⟩
theorem group_q (a : Option Addr) (n cap : Nat) (l : List Nd) (h : Int) (v : Nat) (w : World) (hs : Sl 3 encN w a n l) (hn : n ≤ 1000) (hw : ∀ x ∈ l, x.word < 4294967296) (hv : v < 4294967296) (hT : TabG w) :
  Calls Tryz.prog 108 #[.slice a n cap, .int .i64 h, .int .u32 v] w fun e w' => ∃ a' c', e = .returned (.slice a' (groupN l h v).length c') ∧ Slf 3 encN w w' a' (groupN l h v).length (groupN l h v) ∧ Ex w w' := by
 refine (group_p (S := (· < w.heap.size)) a n cap l h v w hs (fun _ hk => hk) hn hw hv hT).mono ?_
 rintro e w' ⟨a', n', c', rfl, r, k⟩
 obtain rfl : (groupN l h v).length = n' := r.1
 exact ⟨a', c', rfl, r, k⟩
def besP (g : List Nd) (k : Nat) (m : Int) (j : Nat) : List Int := ((g.zipIdx.take j).filter fun q => decide (q.2 ≠ k) && decide ((q.2 : Int) - k ≤ m) && decide ((k : Int) - q.2 ≤ m)).map fun q => q.1.id
theorem besP_snoc {g : List Nd} {k j : Nat} {m : Int} {y : Nd} (hy : g[j]? = some y) : besP g k m (j + 1) = besP g k m j ++ (if j ≠ k ∧ (j : Int) ≥ k - m ∧ (j : Int) ≤ k + m then [y.id] else []) := by
 unfold besP
 have hz : g.zipIdx[j]? = some (y, j) := by simp [List.getElem?_zipIdx, hy]
 rw [List.take_add_one, hz, List.filter_append, List.map_append]
 congr 1
 by_cases hp : j ≠ k ∧ (j : Int) ≥ k - m ∧ (j : Int) ≤ k + m
 ·rw [if_pos hp]
  have : (decide (j ≠ k) && decide ((j : Int) - k ≤ m) && decide ((k : Int) - j ≤ m)) = true := by simp; omega
  simp only [Option.toList_some, List.filter_cons, this, if_true, List.filter_nil, List.map_cons, List.map_nil]
 ·rw [if_neg hp]
  have : (decide (j ≠ k) && decide ((j : Int) - k ≤ m) && decide ((k : Int) - j ≤ m)) = false := by
   rw [Bool.eq_false_iff]
   intro h
   simp at h
   omega
  simp only [Option.toList_some, List.filter_cons, this, List.filter_nil, List.map_nil]
  rfl
theorem besP_all (g : List Nd) (k : Nat) (m : Int) : besP g k m g.length = besideN g k m := by
 unfold besP besideN
 rw [List.take_of_length_le (by simp)]
theorem besP_len (g : List Nd) (k : Nat) (m : Int) (j : Nat) : (besP g k m j).length ≤ g.length := by
 unfold besP
 rw [List.length_map]
 have := List.length_filter_le (fun q : Nd × Nat => decide (q.2 ≠ k) && decide ((q.2 : Int) - k ≤ m) && decide ((k : Int) - q.2 ≤ m)) (g.zipIdx.take j)
 rw [List.length_take, List.length_zipIdx] at this
 omega
def conS (N : List Nd) (x : Nd) (m : Int) (i : Nat) : List Int := (List.range i).flatMap fun h : Nat => besideN (grpS N h x.word) (idxI (grpS N h x.word) x.id) m
theorem conS_snoc (N : List Nd) (x : Nd) (m : Int) (i : Nat) : conS N x m (i + 1) = conS N x m i ++ besideN (grpS N i x.word) (idxI (grpS N i x.word) x.id) m := by
 unfold conS
 rw [List.range_succ, List.flatMap_append]
 simp
theorem grpS_le (N : List Nd) (h : Int) (v : Nat) : (grpS N h v).length ≤ N.length := by
 unfold grpS
 have := groupN_length (sortN N) h v
 rw [sortN_length] at this
 exact this
theorem beside_le (g : List Nd) (k : Nat) (m : Int) : (besideN g k m).length ≤ g.length := by
 rw [← besP_all]; exact besP_len _ _ _ _
theorem conS_len (N : List Nd) (x : Nd) (m : Int) (i : Nat) : (conS N x m i).length ≤ i * N.length := by
 induction i with
 | zero => simp [conS]
 | succ i ih =>
  rw [conS_snoc, List.length_append, Nat.succ_mul]
  have := beside_le (grpS N i x.word) (idxI (grpS N i x.word) x.id) m
  have := grpS_le N i x.word
  omega
theorem con_asc {N : List Nd} (h0 : checkN N = 0) {x : Nd} (hx : x ∈ N) {width height : Int} (hw : 1 ≤ width) (hh0 : 0 ≤ height) (hh : height ≤ 16) : ascN (sortN N) (conS N x (min width 64) (height.toNat + 1)) = contactsN N x.id width height := by
 have h64 := check_len h0
 unfold contactsN
 rw [if_neg (by
  rintro (h | h | h)
  ·omega
  ·unfold lvlN at h; simp at h; omega
  ·exact h h0)]
 unfold ascN ordN
 congr 1
 refine List.filter_congr fun y hy => ?_
 have hy := (sortN_mem N y).1 hy
 rw [Bool.eq_iff_iff]
 simp only [Bool.and_eq_true, Bool.not_eq_true', beq_eq_false_iff_ne, List.contains_iff_mem, conS, List.mem_flatMap, List.mem_range]
 constructor
 ·rintro ⟨i, hi, hb⟩
  obtain ⟨e1, e2⟩ := thr_at h0 hx (h := i) (by omega)
  obtain ⟨j, z, hz, h1, h2, h3, h4⟩ := mem_beside.1 hb
  have hzy : z = y := ids_eq (check_keys h0) (grp_mem.1 (List.mem_of_getElem? hz)).1 hy h4
  subst hzy
  refine ⟨fun he => h1 (grp_uniq h0 hz e2 he), i, hi, ?_⟩
  rw [e1]
  simp only
  exact mem_beside.2 ⟨j, z, hz, h1, by omega, by omega, rfl⟩
 ·rintro ⟨hne, i, hi, hb⟩
  obtain ⟨e1, e2⟩ := thr_at h0 hx (h := i) (by omega)
  rw [e1] at hb
  simp only at hb
  obtain ⟨j, z, hz, h1, h2, h3, h4⟩ := mem_beside.1 hb
  have hj := (List.getElem?_eq_some_iff.1 hz).1
  have hk := (List.getElem?_eq_some_iff.1 e2).1
  have := grpS_le N i x.word
  exact ⟨i, hi, mem_beside.2 ⟨j, z, hz, h1, by omega, by omega, h4⟩⟩
theorem contacts_no {N : List Nd} {id width height : Int} (h : (findN N id).2 = false ∨ checkN N ≠ 0 ∨ width < 1 ∨ height < 0 ∨ 16 < height) : contactsN N id width height = [] := by
 unfold contactsN
 by_cases h1 : width < 1 ∨ lvlN height = false ∨ checkN N ≠ 0
 ·rw [if_pos h1]
 ·rw [if_neg h1]
  have hf : (findN N id).2 = false := by
   rcases h with h | h | h | h | h
   ·exact h
   ·exact absurd (.inr (.inr h)) h1
   ·exact absurd (.inl h) h1
   ·exact absurd (.inr (.inl (by unfold lvlN; simp; omega))) h1
   ·exact absurd (.inr (.inl (by unfold lvlN; simp; omega))) h1
  have ht : ∀ i : Int, throughN N id i = ([], 0, false) := fun i => by
   unfold throughN
   rw [if_neg]
   rintro ⟨h1, _⟩
   rw [hf] at h1
   cases h1
  unfold ordN
  simp only [ht]
  have : (List.flatMap (fun h : Nat => besideN [] 0 width) (List.range (height.toNat + 1))) = [] := by
   rw [List.flatMap_eq_nil_iff]
   intro i _
   rfl
  rw [this]
  simp
def CoRel (N : List Nd) (x : Nd) (m : Int) (bm : Nat) (hh : Nat) (w : World) (i : Value) (wr : World) : Prop :=
 ∃ j : Nat, j ≤ hh ∧ i = .int .i64 j ∧ SetM Tryz.prog 3 4 wr bm (conS N x m j) ∧ Exb bm w wr
def CiRel (G : List Nd) (k : Nat) (m : Int) (C : List Int) (bm : Nat) (w : World) (i : Value) (wr : World) : Prop :=
 ∃ j : Nat, j ≤ G.length ∧ i = .int .i64 j ∧ SetM Tryz.prog 3 4 wr bm (C ++ besP G k m j) ∧ Exb bm w wr
set_option maxRecDepth 100000 in
set_option maxHeartbeats 8000000 in
theorem contacts_p (a : Option Addr) (n c : Nat) (N : List Nd) (id width height : Int) (w : World) (h : Sl 3 encN w a n N) (hn : n ≤ 1000) (hc : n ≤ c) (hm : c ≤ maxLen) (hw : ∀ x ∈ N, x.word < 4294967296) (hT : TabG w) :
  Calls Tryz.prog 67 #[.slice a n c, .int .i64 id, .int .i64 width, .int .i64 height] w (OiPost (contactsN N id width height) w) := by
 have HL := lH h.len
 have HXW := findN_word hw id
 have HW := lH (sort_word hw)
 have EX := Ex.refl w
 clear hw
 go_enter Tryz.func67, Tryz.ntmps67
 go_wp2_with fail
 (with_reducible refine (find_p _ _ _ _ id _ h (by omega)).mono ?_)
 rintro e w1 ⟨rfl, kk⟩
 replace h := h.nx kk
 replace hT := hT.nx kk
 replace EX := EX.nx kk
 clear kk
 obtain ⟨F, hF⟩ : ∃ F, F = findN N id := ⟨_, rfl⟩
 have HF := lH hF
 rw [← hF] at HXW ⊢
 clear hF
 obtain ⟨⟨xi, xk, xw⟩, ok⟩ := F
 simp only at HXW
 have B2 := Blk.new w1 [.int .i64 xi, .string xk, .int .u32 xw] 56
 have kk := Ex.new w1 (.cells #[.int .i64 xi, .string xk, .int .u32 xw] 56)
 obtain ⟨w2, hw2⟩ : ∃ w2, w2 = w1.alloc (.cells #[.int .i64 xi, .string xk, .int .u32 xw] 56) := ⟨_, rfl⟩
 obtain ⟨g2, hg2⟩ : ∃ g2, g2 = w1.heap.size := ⟨_, rfl⟩
 replace B2 : Blk w2 g2 [.int .i64 xi, .string xk, .int .u32 xw] 56 := by rw [hw2, hg2]; exact B2
 rw [← hw2] at kk
 have Hw2 := lH hw2
 have Hg2 := lH hg2
 replace h := h.nx kk
 replace hT := hT.nx kk
 replace EX := EX.nx kk
 clear kk hw2 hg2
 simp only [Nd.val]
 go_upto_region 2 with fail
 rw [← Hg2.out, ← Hw2.out]
 clear Hg2 Hw2
 have NO : Hid ((findN N id).2 = false ∨ checkN N ≠ 0 ∨ width < 1 ∨ height < 0 ∨ 16 < height → ∀ wx, Ex w wx → OiPost (contactsN N id width height) w (.returned (.slice none 0 0)) wx) := lH (fun hh wx kx => by rw [contacts_no hh]; exact ⟨_, rfl, OwnL.nil _ _ _ _ _, kx⟩)
 cases ok with
 | false =>
  have FI := lH (NO.out (.inl (by rw [← HF.out])) _ EX)
  clear h hT B2 NO EX
  go_wp2_with fail
  go_ret
  exact FI.out
 | true =>
  go_wp2_with fail
  (with_reducible refine (check_p _ _ _ _ _ h (by omega) hc hm).mono ?_)
  rintro e w3 ⟨rfl, kk⟩
  replace h := h.nx kk
  replace hT := hT.nx kk
  replace EX := EX.nx kk
  replace B2 := B2.nx kk
  clear kk
  by_cases hck : checkN N = 0
  case neg =>
   have d1 : (checkN N != 0) = true := by simpa using hck
   have FI := lH (NO.out (.inr (.inl hck)) _ EX)
   clear h hT B2 NO hck EX
   go_wp2_with fail
   go_ret
   exact FI.out
  have d1 : (checkN N != 0) = false := by simpa using hck
  have HC := lH hck
  clear hck
  by_cases hw1 : width < 1
  ·have FI := lH (NO.out (.inr (.inr (.inl hw1))) _ EX)
   clear h hT B2 NO EX
   go_wp2_with fail
   go_ret
   exact FI.out
  by_cases hh0 : height < 0
  ·have FI := lH (NO.out (.inr (.inr (.inr (.inl hh0)))) _ EX)
   clear h hT B2 NO EX
   go_wp2_with fail
   go_ret
   exact FI.out
  by_cases hh1 : 16 < height
  ·have FI := lH (NO.out (.inr (.inr (.inr (.inr hh1)))) _ EX)
   clear h hT B2 NO EX
   go_wp2_with fail
   go_ret
   exact FI.out
  obtain ⟨hh, rfl⟩ := Int.eq_ofNat_of_zero_le (show 0 ≤ height by omega)
  have hh16 : hh ≤ 16 := by omega
  obtain ⟨hxN, hxi⟩ : (⟨xi, xk, xw⟩ : Nd) ∈ N ∧ xi = id := by
   have := findN_mem (l := N) (id := id) (by rw [← HF.out])
   rw [← HF.out] at this
   exact this
  replace hxi := lH hxi
  obtain ⟨x, hx⟩ : ∃ x : Nd, x = ⟨xi, xk, xw⟩ := ⟨_, rfl⟩
  rw [← hx] at hxN
  obtain ⟨rfl, rfl, rfl⟩ : xi = x.id ∧ xk = x.key ∧ xw = x.word := by rw [hx]; exact ⟨rfl, rfl, rfl⟩
  have HXN := lH hxN
  obtain ⟨m, hm64⟩ : ∃ m, min width 64 = m := ⟨_, rfl⟩
  have hm1 : 1 ≤ m := by omega
  have hm2 : m ≤ 64 := by omega
  have FIN : Hid (ascN (sortN N) (conS N x m (hh + 1)) = contactsN N id width hh) := lH (by rw [← hm64, ← hxi.out]; have := con_asc HC.out HXN.out (width := width) (height := hh) (by omega) (by omega) (by omega); simpa using this)
  have HI : Hid (∀ y ∈ sortN N, I64 y.id) := lH (fun y hy => (roster_ok HC.out y ((sortN_mem N y).1 hy)).1.1)
  have h64 := check_len HC.out
  clear hx hxN NO hxi HF
  have M4 := SetM.made w3 Tryz.prog 3 4
  have kk := Ex.new w3 (.map #[] 0)
  obtain ⟨w4, hw4⟩ : ∃ w4, w4 = w3.alloc (.map #[] 0) := ⟨_, rfl⟩
  obtain ⟨bm, hbm⟩ : ∃ bm, bm = w3.heap.size := ⟨_, rfl⟩
  replace M4 : SetM Tryz.prog 3 4 w4 bm [] := by rw [hw4, hbm]; exact M4
  rw [← hw4] at kk
  have Hw4 := lH hw4
  have Hbm := lH hbm
  have hgb : ¬ 1 = bm := by have := hT.lt; omega
  have hg2b : g2 ≠ bm := by have := B2.lt; omega
  have hwb : w.heap.size ≤ bm := by have := EX.size; omega
  have HS := lH (h.slb (show w3.heap.size ≤ bm by omega))
  replace HS := lH (HS.out.nxb (kk.b bm))
  replace hT := hT.nx kk
  replace EX := EX.nx kk
  replace B2 := B2.nx kk
  have h := h.nx kk
  clear kk hw4 hbm
  have hmm := @run_makeMap Tryz.prog
  go_upto_region 5 with fail
  rw [← Hbm.out, ← Hw4.out]
  clear Hbm Hw4
  clear hmm
  have hbm4 := M4.lt
  go_wp2_with fail
  (with_reducible refine (sort_p _ _ _ _ _ h hn).mono ?_)
  rintro e w5 ⟨v, S, rfl, OS, ⟨hp, hsrt⟩, kk⟩
  replace hT := hT.nx kk
  replace EX := EX.nx kk
  replace B2 := B2.nx kk
  replace M4 := M4.nx kk
  replace HS := lH (HS.out.nxb (kk.b bm))
  have hSe : S = sortN N := sortN_unique (check_keys HC.out) hp hsrt
  subst hSe
  obtain ⟨a1, c1, rfl, S1, _, _, _⟩ := OS.slf (fun _ => rfl)
  replace S1 := lH (S1.slb hbm4)
  have hsl : (sortN N).length ≤ 64 := by rw [sortN_length]; exact h64
  replace EX := lH EX
  replace hT := lH hT
  replace B2 := lH B2
  clear h OS kk hp hsrt
  go_wp2_with fail
  go_loopw [48] (fun i wr => CoRel N x m bm (hh + 1) w5 i wr) (fun i _ => hh + 1 - (intOf i).toNat)
  case atStart => exact ⟨0, by omega, rfl, M4, Exb.refl _ _⟩
  case round =>
   clear M4
   obtain ⟨i, hi, rfl, M, kw⟩ := hrel
   obtain ⟨wo, rfl⟩ : ∃ wo : World, wo = wr := ⟨_, rfl⟩
   by_cases hlt : i < hh + 1
   ·have T1 := hT.out.nxb hgb kw
    have Q2 := B2.out.nxb hg2b kw
    have q0 := Q2.cell 0 _ rfl
    have q1 := Q2.cell 1 _ rfl
    have q2 := Q2.cell 2 _ rfl
    have S2 := (S1.out.nxb kw).sl
    have hi16 : i ≤ 16 := by omega
    have hbo := M.lt
    obtain ⟨_, hat⟩ := thr_at HC.out HXN.out (h := i) hi16
    replace hat := lH hat
    have KW := lH kw
    clear kw
    go_wp2_with fail
    (with_reducible refine (group_q _ _ _ (sortN N) i x.word _ S2 (by omega) HW.out HXW T1).mono ?_)
    rintro e w6 ⟨a3, c3, rfl, r3, kk⟩
    replace M := M.nx kk
    replace Q2 := Q2.nx kk
    have G3 := lH (r3.slb hbo)
    clear r3
    have hG : groupN (sortN N) i x.word = grpS N i x.word := rfl
    rw [hG] at G3 ⊢
    replace KW := lH (KW.out.nxb (kk.b bm))
    have hgl := grpS_le N i x.word
    have AI := lH (fun j z (hj : j < idxI (grpS N i x.word) x.id) (hz : (grpS N i x.word)[j]? = some z) => show z.id ≠ x.id from fun he => by have := grp_uniq HC.out hz hat.out he; omega)
    have GI : Hid (∀ y ∈ grpS N i x.word, I64 y.id) := lH (fun y hy => HI.out y (List.mem_filter.1 hy).1)
    have CS := lH (conS_snoc N x m i)
    have cl := conS_len N x m i
    have cl2 : (conS N x m i).length ≤ 17 * 64 := Nat.le_trans cl (Nat.mul_le_mul (by omega) h64)
    generalize hK : idxI (grpS N i x.word) x.id = k at hat AI CS
    generalize hGG : grpS N i x.word = G at G3 hgl hat AI GI CS hK ⊢
    generalize conS N x m i = C at M CS cl2
    have hkG : k < G.length := (List.getElem?_eq_some_iff.1 hat.out).1
    clear kk hK hGG hG cl S2 T1 q0 q1 q2
    have q0 := Q2.cell 0 _ rfl
    have q1 := Q2.cell 1 _ rfl
    have q2 := Q2.cell 2 _ rfl
    go_wp2_with fail
    (with_reducible refine (index_n _ _ _ G x k _ G3.out.sl (by omega) hat.out AI.out).mono ?_)
    rintro e w7 ⟨rfl, kk⟩
    replace M := M.nx kk
    replace G3 := lH (G3.out.nxb (kk.b bm))
    replace KW := lH (KW.out.nxb (kk.b bm))
    clear kk q0 q1 q2 Q2
    go_wp2_with fail
    go_loopw [61] (fun i wr => CiRel G k m C bm w7 i wr) (fun i _ => G.length - (intOf i).toNat)
    case atStart => exact ⟨0, by omega, rfl, by simpa [besP] using M, Exb.refl _ _⟩
    case round =>
     clear M
     obtain ⟨j, hj, rfl, M, kw⟩ := hrel
     obtain ⟨wp, rfl⟩ : ∃ wp : World, wp = wr := ⟨_, rfl⟩
     by_cases hjl : j < G.length
     ·obtain ⟨x3, o3, y, rfl, hx3, hy, hc3⟩ := (G3.out.nxb kw).sl.at (j := j) (by omega)
      have e0 : wp.cell? ⟨x3, o3 + j * 3, none⟩ = some (.int .i64 y.id) := hc3 0 _ rfl
      have e1 : wp.cell? ⟨x3, o3 + j * 3 + 1, none⟩ = some (.string y.key) := hc3 1 _ rfl
      have e2 : wp.cell? ⟨x3, o3 + j * 3 + 1 + 1, none⟩ = some (.int .u32 y.word) := by simpa [Nat.add_assoc] using hc3 2 _ rfl
      have SN := lH (besP_snoc (k := k) (m := m) hy)
      have bl := besP_len G k m j
      have hyi := GI.out y (List.mem_of_getElem? hy)
      have hv := lH (wf_of hyi)
      have KV := lH kw
      clear hc3 hy kw
      generalize besP G k m j = R at M SN bl
      have B8 := Blk.new wp [.int .i64 y.id, .string y.key, .int .u32 y.word] 56
      have kk := Ex.new wp (.cells #[.int .i64 y.id, .string y.key, .int .u32 y.word] 56)
      obtain ⟨w8, hw8⟩ : ∃ w8, w8 = wp.alloc (.cells #[.int .i64 y.id, .string y.key, .int .u32 y.word] 56) := ⟨_, rfl⟩
      obtain ⟨g8, hg8⟩ : ∃ g8, g8 = wp.heap.size := ⟨_, rfl⟩
      replace B8 : Blk w8 g8 [.int .i64 y.id, .string y.key, .int .u32 y.word] 56 := by rw [hw8, hg8]; exact B8
      rw [← hw8] at kk
      have Hw8 := lH hw8
      have Hg8 := lH hg8
      replace M := M.nx kk
      replace KV := lH (KV.out.nxb (kk.b bm))
      clear kk hw8 hg8
      go_upto_region 14 with fail
      rw [← Hg8.out, ← Hw8.out]
      clear Hg8 Hw8
      have p0 := B8.cell 0 _ rfl
      clear e0 e1 e2 B8
      by_cases hp : j ≠ k ∧ (j : Int) ≥ k - m ∧ (j : Int) ≤ k + m
      ·obtain ⟨b1, b2, b3⟩ := hp
       have SN : Hid (besP G k m (j + 1) = R ++ [y.id]) := lH (by rw [SN.out, if_pos ⟨b1, b2, b3⟩])
       have c1 : ((j : Int) != k) = true := by simp; omega
       obtain ⟨w9, hrun, M9, k9, _⟩ := M.put (t := 91) Tryz.underlying3 Tryz.underlying4 Tryz.underlying91 (by rw [List.length_append]; omega) hv.out
       have M9 := lH M9
       have K9 := lH (KV.out.nxb k9)
       clear M k9 hyi b1
       go_wp2_with fail
       refine ⟨⟨j + 1, by omega, by go_num, ?_, K9.out⟩, by simp [intOf]; omega⟩
       rw [SN.out, ← List.append_assoc]
       exact M9.out
      ·have SN : Hid (besP G k m (j + 1) = R) := lH (by rw [SN.out, if_neg hp, List.append_nil])
       have RR := lH (show CiRel G k m C bm w7 (.int .i64 ((j : Int) + 1)) w8 from ⟨j + 1, by omega, by go_num, by rw [SN.out]; exact M, KV.out⟩)
       by_cases b1 : j = k
       ·have c1 : ((j : Int) != k) = false := by simp; omega
        clear M hp b1
        go_wp2_with fail
        exact ⟨RR.out, by simp [intOf]; omega⟩
       ·have c1 : ((j : Int) != k) = true := by simp; omega
        by_cases b2 : (j : Int) ≥ k - m
        ·have b3 : ¬ (j : Int) ≤ k + m := fun h => hp ⟨b1, b2, h⟩
         clear M hp b1
         go_wp2_with fail
         exact ⟨RR.out, by simp [intOf]; omega⟩
        ·clear M hp b1
         go_wp2_with fail
         exact ⟨RR.out, by simp [intOf]; omega⟩
     ·obtain rfl : j = G.length := by omega
      have RR := lH (show CoRel N x m bm (hh + 1) w5 (.int .i64 ((i : Int) + 1)) wp from ⟨i + 1, by omega, by go_num, by rw [CS.out, ← besP_all]; exact M, KW.out.nxb kw⟩)
      clear M kw
      go_wp2_with fail
      exact ⟨RR.out, by simp [intOf]; omega⟩
   ·obtain rfl : i = hh + 1 := by omega
    have S0 := (HS.out.nxb kw).sl
    have EF := lH (Exl.nxb (b := bm) (w := w) ⟨EX.out, hwb⟩ kw).1
    clear kw hi hlt
    have hgo : ¬ ((hh + 1 : Nat) : Int) < (hh : Int) + 1 := by omega
    go_wp2_with fail
    (with_reducible refine (ascending_p _ _ _ N bm _ _ S0 hn HC.out M).mono ?_)
    rintro e wz ⟨vz, rfl, oz, kk⟩
    have OZ := lH (oz.base EF.out.size)
    have KZ := lH (EF.out.nx kk)
    clear M oz kk S0
    go_wp2_with fail
    go_ret
    exact ⟨_, rfl, by rw [← FIN.out]; exact OZ.out, KZ.out⟩
def nearF (x : Nd) (i : Nat) (s : Nr) (y : Nd) : Nr :=
 if Op.bytesLess y.key.toList x.key.toList = true then (if bitN y.word i = 0 then (y.id, s.2.1, s.2.2.1, s.2.2.2) else (s.1, y.id, s.2.2.1, s.2.2.2))
 else if y.key.toList = x.key.toList then s
 else if bitN y.word i = 0 then (if s.2.2.1 = 0 then (s.1, s.2.1, y.id, s.2.2.2) else s) else (if s.2.2.2 = 0 then (s.1, s.2.1, s.2.2.1, y.id) else s)
def lastD (d : Int) (l : List Nd) : Int := match l.getLast? with
 | some y => y.id
 | none => d
theorem lastD_cons (d : Int) (y : Nd) (l : List Nd) : lastD d (y :: l) = lastD y.id l := by
 unfold lastD
 cases l with
 | nil => rfl
 | cons z l => rw [List.getLast?_cons_cons]; cases h : (z :: l).getLast? with
  | none => simp at h
  | some u => rfl
theorem lastD_zero (l : List Nd) : lastD 0 l = lastI l := by
 unfold lastD lastI
 cases h : l.getLast? with
 | none => rfl
 | some u => rfl
theorem bit_two (a : Nat) (i : Int) : bitN a i = 0 ∨ bitN a i = 1 := by
 unfold bitN
 split
 ·exact .inl rfl
 ·omega
theorem near_left {x : Nd} {i : Nat} : ∀ (A : List Nd) (s : Nr), (∀ y ∈ A, Op.bytesLess y.key.toList x.key.toList = true) → A.foldl (nearF x i) s = (lastD s.1 (A.filter (bitIs i 0)), lastD s.2.1 (A.filter (bitIs i 1)), s.2.2.1, s.2.2.2)
 | [], s, _ => rfl
 | y :: A, s, h => by
  rw [List.foldl_cons, near_left A _ (fun z hz => h z (List.mem_cons_of_mem _ hz))]
  unfold nearF
  rw [if_pos (h y List.mem_cons_self)]
  rcases bit_two y.word i with hb | hb
  ·rw [if_pos hb, List.filter_cons_of_pos (by simp [bitIs, hb]), List.filter_cons_of_neg (by simp [bitIs, hb]), lastD_cons]
  ·rw [if_neg (by omega), List.filter_cons_of_neg (by simp [bitIs, hb]), List.filter_cons_of_pos (by simp [bitIs, hb]), lastD_cons]
theorem headI_cons (y : Nd) (l : List Nd) : headI (y :: l) = y.id := rfl
theorem near_right {x : Nd} {i : Nat} : ∀ (B : List Nd) (s : Nr), (∀ y ∈ B, Op.bytesLess x.key.toList y.key.toList = true ∧ y.id ≠ 0) →
  B.foldl (nearF x i) s = (s.1, s.2.1, if s.2.2.1 = 0 then headI (B.filter (bitIs i 0)) else s.2.2.1, if s.2.2.2 = 0 then headI (B.filter (bitIs i 1)) else s.2.2.2)
 | [], s, _ => by
  obtain ⟨s1, s2, s3, s4⟩ := s
  have : headI ([] : List Nd) = 0 := rfl
  simp only [List.foldl_nil, List.filter_nil, this, Prod.mk.injEq, true_and]
  constructor <;> split <;> simp_all
 | y :: B, s, h => by
  rw [List.foldl_cons, near_right B _ (fun z hz => h z (List.mem_cons_of_mem _ hz))]
  obtain ⟨hl, hid⟩ := h y List.mem_cons_self
  have h1 := bl_asymm hl
  have h2 : ¬ y.key.toList = x.key.toList := by
   intro he
   rw [he, bytesLess_irrefl] at hl
   cases hl
  unfold nearF
  rw [if_neg (by rw [h1]; simp), if_neg h2]
  rcases bit_two y.word i with hb | hb
  ·rw [if_pos hb, List.filter_cons_of_pos (by simp [bitIs, hb]), List.filter_cons_of_neg (by simp [bitIs, hb]), headI_cons]
   by_cases h3 : s.2.2.1 = 0
   ·rw [if_pos h3]; simp [h3, hid]
   ·rw [if_neg h3]; simp [h3]
  ·rw [if_neg (by omega), List.filter_cons_of_neg (by simp [bitIs, hb]), List.filter_cons_of_pos (by simp [bitIs, hb]), headI_cons]
   by_cases h3 : s.2.2.2 = 0
   ·rw [if_pos h3]; simp [h3, hid]
   ·rw [if_neg h3]; simp [h3]
theorem near_fold {N : List Nd} (h0 : checkN N = 0) {x : Nd} {i : Nat} {A B : List Nd} (e : grpS N i x.word = A ++ x :: B) : (grpS N i x.word).foldl (nearF x i) (0, 0, 0, 0) = nearG N x i := by
 rw [nearG_at h0 e]
 have ha := grp_asc h0 (i : Int) x.word
 rw [e] at ha ⊢
 have hp := List.pairwise_append.1 ha
 rw [List.foldl_append, near_left A _ (fun y hy => (hp.2.2 y hy x List.mem_cons_self).1), List.foldl_cons]
 have hs : ∀ s : Nr, nearF x i s x = s := fun s => by unfold nearF; rw [bytesLess_irrefl]; simp
 rw [hs, near_right B _ (fun y hy => ⟨((List.pairwise_cons.1 hp.2.1).1 y hy).1, ?_⟩)]
 ·simp only [lastD_zero, if_true]
 ·have hm : y ∈ grpS N i x.word := by rw [e]; simp [hy]
  have := (roster_ok h0 y (grp_mem.1 hm).1).2.1
  omega
def NrRel (G : List Nd) (x : Nd) (i g7 : Nat) (w : World) (p : Value) (wr : World) : Prop :=
 ∃ (j : Nat) (s : Nr), j ≤ G.length ∧ p = .int .i64 j ∧ s = (G.take j).foldl (nearF x i) (0, 0, 0, 0) ∧ Blk wr g7 (encNr s) 50 ∧ Exb g7 w wr
theorem nr_snoc {G : List Nd} {x y : Nd} {i j : Nat} (hy : G[j]? = some y) : (G.take (j + 1)).foldl (nearF x i) (0, 0, 0, 0) = nearF x i ((G.take j).foldl (nearF x i) (0, 0, 0, 0)) y := by
 rw [take_snocN G j y hy, List.foldl_append]; rfl
set_option maxRecDepth 100000 in
set_option maxHeartbeats 8000000 in
theorem near_p (a : Option Addr) (n c : Nat) (N : List Nd) (x : Nd) (i : Nat) (w : World) (h : Sl 3 encN w a n (sortN N)) (hn : n ≤ 1000) (h0 : checkN N = 0) (hw : ∀ x ∈ N, x.word < 4294967296) (hx : x ∈ N) (hi : i < 16) (hT : TabG w) :
  Calls Tryz.prog 68 #[.slice a n c, .agg #[.int .i64 x.id, .string x.key, .int .u32 x.word], .int .i64 i] w fun e w' => e = .returned (.agg (encNr (nearG N x i)).toArray) ∧ Ex w w' := by
 have HW := lH (sort_word hw)
 have hxw := hw x hx
 have EX := Ex.refl w
 have FO : Hid ((grpS N i x.word).foldl (nearF x i) (0, 0, 0, 0) = nearG N x i) := lH (by
  obtain ⟨A, B, e⟩ := grp_at hx (h := (i : Int)) (by unfold lvlN; simp; omega)
  exact near_fold h0 e)
 have HI : Hid (∀ y ∈ grpS N i x.word, I64 y.id ∧ y.word < 4294967296) := lH (fun y hy => ⟨(roster_ok h0 y (grp_mem.1 hy).1).1.1, hw y (grp_mem.1 hy).1⟩)
 obtain ⟨g4, hg4⟩ : ∃ g4, g4 = w.heap.size := ⟨_, rfl⟩
 obtain ⟨g6, hg6⟩ : ∃ g6, g6 = (w.heap.size + 1) := ⟨_, rfl⟩
 obtain ⟨g7, hg7⟩ : ∃ g7, g7 = (w.heap.size + 1 + 1) := ⟨_, rfl⟩
 obtain ⟨g8, hg8⟩ : ∃ g8, g8 = (w.heap.size + 1 + 1 + 1) := ⟨_, rfl⟩
 obtain ⟨g9, hg9⟩ : ∃ g9, g9 = (w.heap.size + 1 + 1 + 1 + 1) := ⟨_, rfl⟩
 obtain ⟨w1, hw1⟩ : ∃ w1, w1 = (((((w.alloc (.cells #[.int .i64 x.id, .string x.key, .int .u32 x.word] 56)).alloc (.cells #[.int .i64 0, .int .i64 0, .int .i64 0, .int .i64 0] 50)).alloc (.cells #[.int .i64 0, .int .i64 0, .int .i64 0, .int .i64 0] 50)).alloc (.cells #[.pointer (some ⟨(w.heap.size + 1 + 1), 0, none⟩), .pointer (some ⟨(w.heap.size + 1 + 1), 1, none⟩)] 128)).alloc (.cells #[.pointer (some ⟨(w.heap.size + 1 + 1), 2, none⟩), .pointer (some ⟨(w.heap.size + 1 + 1), 3, none⟩)] 128)) := ⟨_, rfl⟩
 have kk : Ex w w1 := by rw [hw1]; exact ((((((Ex.refl w).alloc (.cells #[.int .i64 x.id, .string x.key, .int .u32 x.word] 56)).alloc (.cells #[.int .i64 0, .int .i64 0, .int .i64 0, .int .i64 0] 50)).alloc (.cells #[.int .i64 0, .int .i64 0, .int .i64 0, .int .i64 0] 50)).alloc (.cells #[.pointer (some ⟨(w.heap.size + 1 + 1), 0, none⟩), .pointer (some ⟨(w.heap.size + 1 + 1), 1, none⟩)] 128)).alloc (.cells #[.pointer (some ⟨(w.heap.size + 1 + 1), 2, none⟩), .pointer (some ⟨(w.heap.size + 1 + 1), 3, none⟩)] 128))
 have B4 : Blk w1 g4 [.int .i64 x.id, .string x.key, .int .u32 x.word] 56 := by rw [hw1]; simp only [hg4, hg6, hg7, hg8, hg9]; have hbk := (((((Blk.new w [.int .i64 x.id, .string x.key, .int .u32 x.word] 56).nx (Ex.new _ (.cells #[.int .i64 0, .int .i64 0, .int .i64 0, .int .i64 0] 50))).nx (Ex.new _ (.cells #[.int .i64 0, .int .i64 0, .int .i64 0, .int .i64 0] 50))).nx (Ex.new _ (.cells #[.pointer (some ⟨(w.heap.size + 1 + 1), 0, none⟩), .pointer (some ⟨(w.heap.size + 1 + 1), 1, none⟩)] 128))).nx (Ex.new _ (.cells #[.pointer (some ⟨(w.heap.size + 1 + 1), 2, none⟩), .pointer (some ⟨(w.heap.size + 1 + 1), 3, none⟩)] 128))); simpa using hbk
 have B6 : Blk w1 g6 [.int .i64 0, .int .i64 0, .int .i64 0, .int .i64 0] 50 := by rw [hw1]; simp only [hg4, hg6, hg7, hg8, hg9]; have hbk := ((((Blk.new (w.alloc (.cells #[.int .i64 x.id, .string x.key, .int .u32 x.word] 56)) [.int .i64 0, .int .i64 0, .int .i64 0, .int .i64 0] 50).nx (Ex.new _ (.cells #[.int .i64 0, .int .i64 0, .int .i64 0, .int .i64 0] 50))).nx (Ex.new _ (.cells #[.pointer (some ⟨(w.heap.size + 1 + 1), 0, none⟩), .pointer (some ⟨(w.heap.size + 1 + 1), 1, none⟩)] 128))).nx (Ex.new _ (.cells #[.pointer (some ⟨(w.heap.size + 1 + 1), 2, none⟩), .pointer (some ⟨(w.heap.size + 1 + 1), 3, none⟩)] 128))); simpa using hbk
 have B7 : Blk w1 g7 [.int .i64 0, .int .i64 0, .int .i64 0, .int .i64 0] 50 := by rw [hw1]; simp only [hg4, hg6, hg7, hg8, hg9]; have hbk := (((Blk.new ((w.alloc (.cells #[.int .i64 x.id, .string x.key, .int .u32 x.word] 56)).alloc (.cells #[.int .i64 0, .int .i64 0, .int .i64 0, .int .i64 0] 50)) [.int .i64 0, .int .i64 0, .int .i64 0, .int .i64 0] 50).nx (Ex.new _ (.cells #[.pointer (some ⟨(w.heap.size + 1 + 1), 0, none⟩), .pointer (some ⟨(w.heap.size + 1 + 1), 1, none⟩)] 128))).nx (Ex.new _ (.cells #[.pointer (some ⟨(w.heap.size + 1 + 1), 2, none⟩), .pointer (some ⟨(w.heap.size + 1 + 1), 3, none⟩)] 128))); simpa using hbk
 have B8 : Blk w1 g8 [.pointer (some ⟨g7, 0, none⟩), .pointer (some ⟨g7, 1, none⟩)] 128 := by rw [hw1]; simp only [hg4, hg6, hg7, hg8, hg9]; have hbk := ((Blk.new (((w.alloc (.cells #[.int .i64 x.id, .string x.key, .int .u32 x.word] 56)).alloc (.cells #[.int .i64 0, .int .i64 0, .int .i64 0, .int .i64 0] 50)).alloc (.cells #[.int .i64 0, .int .i64 0, .int .i64 0, .int .i64 0] 50)) [.pointer (some ⟨(w.heap.size + 1 + 1), 0, none⟩), .pointer (some ⟨(w.heap.size + 1 + 1), 1, none⟩)] 128).nx (Ex.new _ (.cells #[.pointer (some ⟨(w.heap.size + 1 + 1), 2, none⟩), .pointer (some ⟨(w.heap.size + 1 + 1), 3, none⟩)] 128))); simpa using hbk
 have B9 : Blk w1 g9 [.pointer (some ⟨g7, 2, none⟩), .pointer (some ⟨g7, 3, none⟩)] 128 := by rw [hw1]; simp only [hg4, hg6, hg7, hg8, hg9]; have hbk := (Blk.new ((((w.alloc (.cells #[.int .i64 x.id, .string x.key, .int .u32 x.word] 56)).alloc (.cells #[.int .i64 0, .int .i64 0, .int .i64 0, .int .i64 0] 50)).alloc (.cells #[.int .i64 0, .int .i64 0, .int .i64 0, .int .i64 0] 50)).alloc (.cells #[.pointer (some ⟨(w.heap.size + 1 + 1), 0, none⟩), .pointer (some ⟨(w.heap.size + 1 + 1), 1, none⟩)] 128)) [.pointer (some ⟨(w.heap.size + 1 + 1), 2, none⟩), .pointer (some ⟨(w.heap.size + 1 + 1), 3, none⟩)] 128); simpa using hbk
 have Hw1 := lH hw1
 have Hg4 := lH hg4
 have Hg6 := lH hg6
 have Hg7 := lH hg7
 have Hg8 := lH hg8
 have Hg9 := lH hg9
 replace h := h.nx kk
 replace hT := hT.nx kk
 replace EX := EX.nx kk
 have n47 : g4 ≠ g7 := by omega
 have n67 : g6 ≠ g7 := by omega
 have n87 : g8 ≠ g7 := by omega
 have n97 : g9 ≠ g7 := by omega
 have hw7 : w.heap.size ≤ g7 := by omega
 have hw6 : w.heap.size ≤ g6 := by omega
 clear kk hw hx h0 hw1 hg4 hg6 hg7 hg8 hg9
 go_enter Tryz.func68, Tryz.ntmps68
 go_upto_region 4 with fail
 rw [← Hw1.out, ← Hg9.out, ← Hg8.out, ← Hg7.out, ← Hg6.out, ← Hg4.out]
 clear Hw1 Hg9 Hg8 Hg7 Hg6 Hg4
 have hb7 := B7.lt
 have q0 := B4.cell 0 _ rfl
 have q1 := B4.cell 1 _ rfl
 have q2 := B4.cell 2 _ rfl
 go_wp2_with fail
 (with_reducible refine (group_q _ _ _ (sortN N) i x.word _ h (by omega) HW.out hxw hT).mono ?_)
 rintro e w6 ⟨a3, c3, rfl, r3, kk⟩
 replace EX := EX.nx kk
 replace B4 := B4.nx kk
 replace B6 := B6.nx kk
 replace B7 := B7.nx kk
 replace B8 := B8.nx kk
 replace B9 := B9.nx kk
 clear kk
 have hG : groupN (sortN N) i x.word = grpS N i x.word := rfl
 have hgl : (groupN (sortN N) i x.word).length ≤ 1000 := by have := groupN_length (sortN N) i x.word; have := h.len; omega
 rw [hG] at r3 hgl ⊢
 generalize grpS N i x.word = G at r3 hgl FO HI ⊢
 have G3 := lH (r3.slb hb7)
 replace EX := lH EX
 replace B4 := lH B4
 replace B6 := lH B6
 replace B8 := lH B8
 replace B9 := lH B9
 clear r3 hG h hT q0 q1 q2 HW
 go_wp2_with fail
 go_loopw [25] (fun p wr => NrRel G x i g7 w6 p wr) (fun p _ => G.length - (intOf p).toNat)
 case atStart => exact ⟨0, (0, 0, 0, 0), by omega, rfl, rfl, B7, Exb.refl _ _⟩
 case round =>
  clear B7
  obtain ⟨j, s, hj, rfl, hs, B7, kw⟩ := hrel
  obtain ⟨wo, rfl⟩ : ∃ wo : World, wo = wr := ⟨_, rfl⟩
  by_cases hjl : j < G.length
  ·obtain ⟨x3, o3, y, rfl, hx3, hy, hc3⟩ := (G3.out.nxb kw).sl.at (j := j) hjl
   have e0 : wo.cell? ⟨x3, o3 + j * 3, none⟩ = some (.int .i64 y.id) := hc3 0 _ rfl
   have e1 : wo.cell? ⟨x3, o3 + j * 3 + 1, none⟩ = some (.string y.key) := hc3 1 _ rfl
   have e2 : wo.cell? ⟨x3, o3 + j * 3 + 1 + 1, none⟩ = some (.int .u32 y.word) := by simpa [Nat.add_assoc] using hc3 2 _ rfl
   have SN := lH (nr_snoc (x := x) (i := i) hy)
   rw [← hs] at SN
   obtain ⟨hyi, hyw⟩ := HI.out y (List.mem_of_getElem? hy)
   have hg7w := B7.lt
   have Q8 := B8.out.nxb n87 kw
   have Q9 := B9.out.nxb n97 kw
   have Q4 := B4.out.nxb n47 kw
   have KV := lH kw
   clear hc3 hy kw hs
   have B11 := Blk.new wo [.int .i64 y.id, .string y.key, .int .u32 y.word] 56
   have kk := Ex.new wo (.cells #[.int .i64 y.id, .string y.key, .int .u32 y.word] 56)
   obtain ⟨w8, hw8⟩ : ∃ w8, w8 = wo.alloc (.cells #[.int .i64 y.id, .string y.key, .int .u32 y.word] 56) := ⟨_, rfl⟩
   obtain ⟨g11, hg11⟩ : ∃ g11, g11 = wo.heap.size := ⟨_, rfl⟩
   replace B11 : Blk w8 g11 [.int .i64 y.id, .string y.key, .int .u32 y.word] 56 := by rw [hw8, hg11]; exact B11
   rw [← hw8] at kk
   have Hw8 := lH hw8
   have Hg11 := lH hg11
   replace B7 := B7.nx kk
   replace Q8 := Q8.nx kk
   replace Q9 := Q9.nx kk
   replace Q4 := Q4.nx kk
   replace KV := lH (KV.out.nxb (kk.b g7))
   have hn11 : ¬ g11 = g7 := by omega
   clear kk hw8 hg11
   go_upto_region 7 with fail
   rw [← Hg11.out, ← Hw8.out]
   clear Hg11 Hw8
   have p0 := B11.cell 0 _ rfl
   have p1 := B11.cell 1 _ rfl
   have p2 := B11.cell 2 _ rfl
   have q1 := Q4.cell 1 _ rfl
   have l0 := Q8.cell 0 _ rfl
   have l1 := Q8.cell 1 _ rfl
   have m0 := Q9.cell 0 _ rfl
   have m1 := Q9.cell 1 _ rfl
   have r0 := B7.cell 0 _ rfl
   have r1 := B7.cell 1 _ rfl
   have r2 := B7.cell 2 _ rfl
   have r3 := B7.cell 3 _ rfl
   have f0 := B7.free 0
   have f1 := B7.free 1
   have f2 := B7.free 2
   have f3 := B7.free 3
   have HB := lH B7
   clear e0 e1 e2 B7 B11 Q8 Q9 Q4
   go_wp2_with fail
   (with_reducible refine (bit_p y.word i _ hyw (by omega) (by omega)).mono ?_)
   rintro e w9 ⟨rfl, rfl⟩
   have hb2 := bit_two y.word i
   have HBT : Hid (nearF x i s y = if Op.bytesLess y.key.toList x.key.toList = true then (if bitN y.word i = 0 then (y.id, s.2.1, s.2.2.1, s.2.2.2) else (s.1, y.id, s.2.2.1, s.2.2.2))
     else if y.key.toList = x.key.toList then s else if bitN y.word i = 0 then (if s.2.2.1 = 0 then (s.1, s.2.1, y.id, s.2.2.2) else s) else (if s.2.2.2 = 0 then (s.1, s.2.1, s.2.2.1, y.id) else s)) := lH rfl
   generalize bitN y.word i = bt at hb2 HBT ⊢
   have RR : Hid (∀ (s' : Nr) wx, nearF x i s y = s' → Blk wx g7 (encNr s') 50 → Exb g7 w6 wx → NrRel G x i g7 w6 (.int .i64 ((j : Int) + 1)) wx) := lH (fun s' wx h1 h2 h3 => ⟨j + 1, s', by omega, by go_num, by rw [SN.out, h1], h2, h3⟩)
   cases hle : Op.bytesLess y.key.toList x.key.toList with
   | true =>
    rcases hb2 with rfl | rfl
    ·have NF : Hid (nearF x i s y = (y.id, s.2.1, s.2.2.1, s.2.2.2)) := lH (by rw [HBT.out, if_pos hle]; rfl)
     clear HBT
     go_wp2_with fail
     go_region
     go_wp2_with fail
     exact ⟨RR.out _ _ NF.out (HB.out.set 0 _) (KV.out.drew.setB (p := ⟨g7, 0, none⟩) _ rfl), by simp [intOf]; omega⟩
    ·have NF : Hid (nearF x i s y = (s.1, y.id, s.2.2.1, s.2.2.2)) := lH (by rw [HBT.out, if_pos hle]; rfl)
     clear HBT
     go_wp2_with fail
     go_region
     go_wp2_with fail
     exact ⟨RR.out _ _ NF.out (HB.out.set 1 _) (KV.out.drew.setB (p := ⟨g7, 1, none⟩) _ rfl), by simp [intOf]; omega⟩
   | false =>
    by_cases hke : y.key.toList = x.key.toList
    ·have hkb : (y.key.toList == x.key.toList) = true := by rw [hke]; exact beq_self_eq_true _
     have NF := lH (RR.out s w8 (by rw [HBT.out, if_neg (by rw [hle]; simp), if_pos hke]) HB.out KV.out)
     clear HBT hke
     go_wp2_with fail
     exact ⟨NF.out, by simp [intOf]; omega⟩
    ·have hkb : (y.key.toList == x.key.toList) = false := by rw [beq_eq_false_iff_ne]; exact hke
     have HN : Hid (nearF x i s y = if bt = 0 then (if s.2.2.1 = 0 then (s.1, s.2.1, y.id, s.2.2.2) else s) else (if s.2.2.2 = 0 then (s.1, s.2.1, s.2.2.1, y.id) else s)) := lH (by rw [HBT.out, if_neg (by rw [hle]; simp), if_neg hke])
     clear HBT hke
     rcases hb2 with rfl | rfl
     ·by_cases hz : s.2.2.1 = 0
      ·have NF : Hid (nearF x i s y = (s.1, s.2.1, y.id, s.2.2.2)) := lH (by rw [HN.out, if_pos rfl, if_pos hz])
       clear HN
       go_wp2_with fail
       go_region
       go_wp2_with fail
       exact ⟨RR.out _ _ NF.out (HB.out.set 2 _) (KV.out.drew.setB (p := ⟨g7, 2, none⟩) _ rfl), by simp [intOf]; omega⟩
      ·have hzb : (s.2.2.1 == 0) = false := by simpa using hz
       have NF := lH (RR.out s w8 (by rw [HN.out, if_pos rfl, if_neg hz]) HB.out KV.out)
       clear HN hz
       go_wp2_with fail
       exact ⟨NF.out, by simp [intOf]; omega⟩
     ·by_cases hz : s.2.2.2 = 0
      ·have NF : Hid (nearF x i s y = (s.1, s.2.1, s.2.2.1, y.id)) := lH (by rw [HN.out, if_neg (by omega), if_pos hz])
       clear HN
       go_wp2_with fail
       go_region
       go_wp2_with fail
       exact ⟨RR.out _ _ NF.out (HB.out.set 3 _) (KV.out.drew.setB (p := ⟨g7, 3, none⟩) _ rfl), by simp [intOf]; omega⟩
      ·have hzb : (s.2.2.2 == 0) = false := by simpa using hz
       have NF := lH (RR.out s w8 (by rw [HN.out, if_neg (by omega), if_neg hz]) HB.out KV.out)
       clear HN hz
       go_wp2_with fail
       exact ⟨NF.out, by simp [intOf]; omega⟩
  ·obtain rfl : j = G.length := by omega
   have FSn : Hid (s = nearG N x i) := lH (by rw [← FO.out, hs, List.take_of_length_le (Nat.le_refl _)])
   have r0 := B7.cell 0 _ rfl
   have r1 := B7.cell 1 _ rfl
   have r2 := B7.cell 2 _ rfl
   have r3 := B7.cell 3 _ rfl
   have Q6 := B6.out.nxb n67 kw
   have z0 := Q6.cell 0 _ rfl
   have z1 := Q6.cell 1 _ rfl
   have z2 := Q6.cell 2 _ rfl
   have z3 := Q6.cell 3 _ rfl
   have f0 := Q6.free 0
   have f1 := Q6.free 1
   have f2 := Q6.free 2
   have f3 := Q6.free 3
   have EF : Ex w wo := (Exl.nxb (b := g7) (w := w) ⟨EX.out, hw7⟩ kw).1
   have KE := lH ((((EF.setNew (p := ⟨g6, 0, none⟩) (.int .i64 s.1) hw6).setNew (p := ⟨g6, 1, none⟩) (.int .i64 s.2.1) hw6).setNew (p := ⟨g6, 2, none⟩) (.int .i64 s.2.2.1) hw6).setNew (p := ⟨g6, 3, none⟩) (.int .i64 s.2.2.2) hw6)
   clear hj hjl kw hs B7 Q6 EF
   go_wp2_with fail
   refine bodyPost_ret (v := .agg #[.int .i64 s.1, .int .i64 s.2.1, .int .i64 s.2.2.1, .int .i64 s.2.2.2]) (by simp [results, Tryz.results68, go_sem, *]) rfl ⟨by rw [← FSn.out]; rfl, KE.out⟩
theorem newPr {w0 u : World} (_ : Ex w0 u) : ∃ g v, g = u.heap.size ∧ v = u.alloc (.cells #[.int .i64 0, .slice none 0 0, .int .i64 0, .int .i64 0, .slice none 0 0] 41) ∧ Blk v g [.int .i64 0, .slice none 0 0, .int .i64 0, .int .i64 0, .slice none 0 0] 41 ∧ Ex u v :=
 ⟨_, _, rfl, rfl, Blk.new _ _ _, Ex.new _ _⟩
theorem litN4 {w0 u : World} (_ : Ex w0 u) (y : Nr) : ∃ g v, g = u.heap.size ∧ v = u.alloc (.cells #[.int .i64 y.1, .int .i64 y.2.1, .int .i64 y.2.2.1, .int .i64 y.2.2.2] 50) ∧ Sl 4 encNr v (some ⟨g, 0, none⟩) 1 [y] ∧ Ex u v :=
 ⟨_, _, rfl, rfl, Sl.lit [y] rfl rfl (fun _ => rfl) rfl, Ex.new _ _⟩
theorem thr_sort {N : List Nd} (h0 : checkN N = 0) (id : Int) (i : Int) : throughN (sortN N) id i = throughN N id i := by
 have hs : sortN (sortN N) = sortN N := sort_perm (sortN_perm N) h0
 have hc : checkN (sortN N) = checkN N := by rw [check_perm (sortN_perm N) h0, h0]
 by_cases hx : ∃ x ∈ N, x.id = id
 ·obtain ⟨x, hx, rfl⟩ := hx
  unfold throughN thrG
  rw [find_in h0 hx, find_in (hc.trans h0) ((sortN_mem N x).2 hx), hs, hc]
 ·rw [thr_no (fun x hx' he => hx ⟨x, hx', he⟩), thr_no (fun x hx' he => hx ⟨x, (sortN_mem N x).1 hx', he⟩)]
theorem neigh_sort {N : List Nd} (h0 : checkN N = 0) (id : Int) (i : Int) : neighN (sortN N) id i = neighN N id i := by
 unfold neighN
 rw [thr_sort h0]
theorem nearG_sort {N : List Nd} (h0 : checkN N = 0) (x : Nd) (i : Nat) : nearG (sortN N) x i = nearG N x i := by
 have hs : sortN (sortN N) = sortN N := sort_perm (sortN_perm N) h0
 unfold nearG grpS
 rw [hs]
theorem peerC_eq {N : List Nd} (h0 : checkN N = 0) (width height : Int) (x : Nd) : peerC N width height x = ⟨x.id, (neighN N x.id 0).1.1, (neighN N x.id 0).1.2, contactsN N x.id width height, (List.range height.toNat).map (nearG N x)⟩ := by
 unfold peerC
 rw [neigh_sort h0, contacts_sort h0]
 congr 1
 exact List.map_congr_left fun i _ => nearG_sort h0 x i
def PsRel (N : List Nd) (width height : Int) (w : World) (o i : Value) (wr : World) : Prop :=
 ∃ (j : Nat) (qs : List PQ), j ≤ (sortN N).length ∧ i = .int .i64 j ∧ OwnPr w.heap.size wr o qs (((sortN N).take j).map (peerC N width height)) ∧ Ex w wr
def PcRel (N : List Nd) (x : Nd) (width : Int) (hh : Nat) (nl nr : Int) (β : Nat) (w6 : World) (s : Value) (wx : World) : Prop :=
 ∃ (g : Nat) (A : Option Addr) (C : Nat), s = .pointer (some ⟨g, 0, none⟩) ∧ w6.heap.size ≤ g ∧ Blk wx g [.int .i64 x.id, .slice A (contactsN N x.id width hh).length C, .int .i64 nl, .int .i64 nr, .slice none 0 0] 41 ∧ OwnL 1 encI 3 β wx (.slice A (contactsN N x.id width hh).length C) (contactsN N x.id width hh) ∧ Ex w6 wx
def PnRel (N : List Nd) (x : Nd) (hh g : Nat) (kv : Value) (l r : Int) (w : World) (p : Value) (wr : World) : Prop :=
 ∃ (j : Nat) (A : Option Addr) (m c : Nat), j ≤ hh ∧ p = .int .i64 j ∧ Blk wr g [.int .i64 x.id, kv, .int .i64 l, .int .i64 r, .slice A m c] 41 ∧ OwnL 4 encNr 50 w.heap.size wr (.slice A m c) ((List.range j).map (nearG N x)) ∧ Exb g w wr
set_option maxRecDepth 100000 in
set_option maxHeartbeats 16000000 in
theorem peers_p (a : Option Addr) (n c : Nat) (N : List Nd) (width height : Int) (w : World) (h : Sl 3 encN w a n N) (hn : n ≤ 1000) (hc : n ≤ c) (hm : c ≤ maxLen) (hw : ∀ x ∈ N, x.word < 4294967296) (hT : TabG w) :
  Calls Tryz.prog 29 #[.slice a n c, .int .i64 width, .int .i64 height] w (PlPost (peersN N width height) w) := by
 have HL := lH h.len
 have HW := lH hw
 have EX := Ex.refl w
 clear hw
 have NO : Hid (checkN N ≠ 0 ∨ lvlN height = false → ∀ wx, Ex w wx → PlPost (peersN N width height) w (.returned (.slice none 0 0)) wx) := lH (fun hh wx kx => by
  unfold peersN
  rw [if_neg (by
   rintro ⟨h1, h2⟩
   rcases hh with h | h
   ·exact h h1
   ·rw [h] at h2; cases h2)]
  exact ⟨_, [], rfl, OwnP.nil _ _ _ _ _, kx⟩)
 go_enter Tryz.func29, Tryz.ntmps29
 go_wp2_with fail
 (with_reducible refine (check_p _ _ _ _ _ h (by omega) hc hm).mono ?_)
 rintro e w1 ⟨rfl, kk⟩
 replace h := h.nx kk
 replace EX := EX.nx kk
 replace hT := hT.nx kk
 clear kk
 by_cases hck : checkN N = 0
 case neg =>
  have d1 : (checkN N != 0) = true := by simpa using hck
  have FI := lH (NO.out (.inl hck) _ EX)
  clear h NO EX hck hT
  go_wp2_with fail
  go_ret
  exact FI.out
 have d1 : (checkN N != 0) = false := by simpa using hck
 by_cases hh0 : height < 0
 ·have FI := lH (NO.out (.inr (by unfold lvlN; simp; omega)) _ EX)
  clear h NO EX hck hT
  go_wp2_with fail
  go_ret
  exact FI.out
 by_cases hh1 : 16 < height
 ·have FI := lH (NO.out (.inr (by unfold lvlN; simp; omega)) _ EX)
  clear h NO EX hck hT
  go_wp2_with fail
  go_ret
  exact FI.out
 obtain ⟨hh, rfl⟩ := Int.eq_ofNat_of_zero_le (show 0 ≤ height by omega)
 have hh16 : hh ≤ 16 := by omega
 have HC := lH hck
 have FIN : Hid (peersN N width hh = (sortN N).map (peerC N width hh)) := lH (by unfold peersN; rw [if_pos ⟨hck, by unfold lvlN; simp; omega⟩])
 have hsN : (sortN N).length = n := by rw [sortN_length, HL.out]
 have hn64 : n ≤ 64 := by have := check_len hck; have := HL.out; omega
 clear NO hck
 go_wp2_with fail
 (with_reducible refine (sort_p _ _ _ _ _ h hn).mono ?_)
 rintro e w3 ⟨v, S, rfl, OS, ⟨hp, hsrt⟩, kk⟩
 replace h := h.nx kk
 replace EX := EX.nx kk
 replace hT := hT.nx kk
 clear kk
 have hSe : S = sortN N := sortN_unique (check_keys HC.out) hp hsrt
 subst hSe
 obtain ⟨a3, c3, rfl, S3, _, _⟩ := sorted_own HC.out OS
 rw [HL.out] at S3 ⊢
 clear OS hp hsrt
 replace hT := lH hT
 replace h := lH h
 replace S3 := lH S3
 replace EX := lH EX
 go_wp2_with fail
 go_loopw [8, 30] (fun o i wr => PsRel N width hh w3 o i wr) (fun _ i _ => n - (intOf i).toNat)
 case atStart => exact ⟨0, [], by omega, rfl, OwnP.nil _ _ _ _ _, Ex.refl _⟩
 case round =>
  obtain ⟨j, qs, hj, rfl, own, ki⟩ := hrel
  obtain ⟨wi, rfl⟩ : ∃ wi : World, wi = wr := ⟨_, rfl⟩
  rw [hsN] at hj
  by_cases hjm : j < n
  ·obtain ⟨x3, o3, x, rfl, hx3, hy, hc3⟩ := (S3.out.nx ki).at hjm
   have e0 : wi.cell? ⟨x3, o3 + j * 3, none⟩ = some (.int .i64 x.id) := hc3 0 _ rfl
   have e1 : wi.cell? ⟨x3, o3 + j * 3 + 1, none⟩ = some (.string x.key) := hc3 1 _ rfl
   have e2 : wi.cell? ⟨x3, o3 + j * 3 + 1 + 1, none⟩ = some (.int .u32 x.word) := by simpa [Nat.add_assoc] using hc3 2 _ rfl
   have hxN : x ∈ N := (sortN_mem N x).1 (List.mem_of_getElem? hy)
   have HX := lH hxN
   have SN : Hid (((sortN N).take (j + 1)).map (peerC N width hh) = ((sortN N).take j).map (peerC N width hh) ++ [peerC N width hh x]) := lH (by rw [take_snocN _ j x hy, List.map_append]; rfl)
   have PQ : Hid (peerC N width hh x = ⟨x.id, (neighN N x.id 0).1.1, (neighN N x.id 0).1.2, contactsN N x.id width hh, (List.range hh).map (nearG N x)⟩) := lH (by have := peerC_eq HC.out width hh x; simpa using this)
   have hql : qs.length = j := by rw [own.2.1, List.length_map, List.length_take]; omega
   have hwi := ki.size
   have KI := lH ki
   have OWN := lH own
   clear hy own ki hxN hc3
   have B10 := Blk.new wi [.int .i64 x.id, .string x.key, .int .u32 x.word] 56
   have kk := Ex.new wi (.cells #[.int .i64 x.id, .string x.key, .int .u32 x.word] 56)
   obtain ⟨w4, hw4⟩ : ∃ w4, w4 = wi.alloc (.cells #[.int .i64 x.id, .string x.key, .int .u32 x.word] 56) := ⟨_, rfl⟩
   obtain ⟨g10, hg10⟩ : ∃ g10, g10 = wi.heap.size := ⟨_, rfl⟩
   replace B10 : Blk w4 g10 [.int .i64 x.id, .string x.key, .int .u32 x.word] 56 := by rw [hw4, hg10]; exact B10
   rw [← hw4] at kk
   have Hw4 := lH hw4
   have Hg10 := lH hg10
   have zg10 : wi.heap.size ≤ g10 := by omega
   have K4 := lH kk
   clear kk hw4 hg10
   go_upto_region 8 with fail
   rw [← Hg10.out, ← Hw4.out]
   clear Hg10 Hw4
   have q0 := B10.cell 0 _ rfl
   clear e0 e1 e2
   go_wp2_with fail
   (with_reducible refine (neigh_p _ _ _ N x.id 0 _ (h.out.nx (KI.out.nx K4.out)) hn hc hm HW.out (hT.out.nx (KI.out.nx K4.out))).mono ?_)
   rintro e w5 ⟨rfl, kk⟩
   replace B10 := B10.nx kk
   replace K4 := lH (K4.out.nx kk)
   clear kk q0
   generalize hL : (neighN N x.id 0).1.1 = nl at PQ ⊢
   generalize hR : (neighN N x.id 0).1.2 = nr at PQ ⊢
   clear hL hR
   have hz5 := K4.out.size
   have B11 := Blk.new w5 [.int .i64 nl, .int .i64 nr] 69
   have kk := Ex.new w5 (.cells #[.int .i64 nl, .int .i64 nr] 69)
   obtain ⟨w6, hw6⟩ : ∃ w6, w6 = w5.alloc (.cells #[.int .i64 nl, .int .i64 nr] 69) := ⟨_, rfl⟩
   obtain ⟨g11, hg11⟩ : ∃ g11, g11 = w5.heap.size := ⟨_, rfl⟩
   replace B11 : Blk w6 g11 [.int .i64 nl, .int .i64 nr] 69 := by rw [hw6, hg11]; exact B11
   rw [← hw6] at kk
   have Hw6 := lH hw6
   have Hg11 := lH hg11
   replace B10 := B10.nx kk
   replace K4 := lH (K4.out.nx kk)
   have zg11 : wi.heap.size ≤ g11 := by have := hz5; omega
   clear kk hw6 hg11
   go_upto_region 9 with fail
   rw [← Hg11.out, ← Hw6.out]
   clear Hg11 Hw6
   replace B11 := lH B11
   replace B10 := lH B10
   have SK := lH (S3.out.nx (KI.out.nx K4.out))
   have hz6 := K4.out.size
   go_cut [13] from 41 to 53 (fun s13 wx => PcRel N x width hh nl nr wi.heap.size w6 s13 wx)
   case first =>
    refine wp_region_late_drew (S := Ex w6) [14] (by kernel_rfl) ((Ex.refl w6).drew) (fun hHeld => ?_)
    obtain ⟨wd, hwdx⟩ : ∃ wd : World, wd = World.drew w6 := ⟨_, rfl⟩
    rw [← hwdx] at hHeld ⊢
    have hDrew : Ex w6 wd := by rw [hwdx]; exact (Ex.refl w6).drew
    clear hwdx
    refine tkL 0 (v := ?_) rfl (by kernel_rfl) (fun _ _ _ h => h) (by rfl) ?y1x0q5 (by assumption) ?z1x0q5
    case y1x0q5 => intro wq hSw; (go_simp); (try with_reducible rfl)
    refine tkL 1 (v := ?_) rfl (by kernel_rfl) (fun _ _ _ h => h) (by rfl) ?y1x1q8 (by assumption) ?z1x1q8
    case y1x1q8 => intro wq hSw; (have cq := (B10.out.nx hSw).cell 0 _ rfl; go_simp); (try with_reducible rfl)
    refine tkL 2 (v := ?_) rfl (by kernel_rfl) (fun _ _ _ h => h) (by rfl) ?y1x2q11 (by assumption) ?z1x2q11
    case y1x2q11 => intro wq hSw; (go_simp); (try with_reducible rfl)
    refine tkL 3 (v := ?_) rfl (by kernel_rfl) (fun _ _ _ h => h) (by rfl) ?y1x3q14 (by assumption) ?z1x3q14
    case y1x3q14 => intro wq hSw; (go_simp); (try with_reducible rfl)
    refine tkL 4 (v := ?_) rfl (by kernel_rfl) (fun _ _ _ h => h) (by rfl) ?y1x4q17 (by assumption) ?z1x4q17
    case y1x4q17 => intro wq hSw; (have cq := (B10.out.nx hSw).cell 0 _ rfl; go_simp); (try with_reducible rfl)
    refine tkL 5 (v := ?_) rfl (by kernel_rfl) (fun _ _ _ h => h) (by rfl) ?y1x5q20 (by assumption) ?z1x5q20
    case y1x5q20 => intro wq hSw; (go_simp); (try with_reducible rfl)
    refine tkL 6 (v := ?_) rfl (by kernel_rfl) (fun _ _ _ h => h) (by rfl) ?y1x6q23 (by assumption) ?z1x6q23
    case y1x6q23 => intro wq hSw; (go_simp); (try with_reducible rfl)
    refine tkL 8 (v := ?_) rfl (by kernel_rfl) (fun _ _ _ h => h) (by rfl) ?y1x8q26 (by assumption) ?z1x8q26
    case y1x8q26 => intro wq hSw; (go_simp); (try with_reducible rfl)
    refine tkL 9 (v := ?_) rfl (by kernel_rfl) (fun _ _ _ h => h) (by rfl) ?y1x9q29 (by assumption) ?z1x9q29
    case y1x9q29 => intro wq hSw; (have cq := (B11.out.nx hSw).cell 0 _ rfl; go_simp); (try with_reducible rfl)
    refine tkL 10 (v := ?_) rfl (by kernel_rfl) (fun _ _ _ h => h) (by rfl) ?y1x10q32 (by assumption) ?z1x10q32
    case y1x10q32 => intro wq hSw; (go_simp); (try with_reducible rfl)
    refine tkL 11 (v := ?_) rfl (by kernel_rfl) (fun _ _ _ h => h) (by rfl) ?y1x11q35 (by assumption) ?z1x11q35
    case y1x11q35 => intro wq hSw; (have cq := (B11.out.nx hSw).cell 1 _ rfl; go_simp); (try with_reducible rfl)
    refine wpAnyL_ready (rs := [7, 13]) (by kernel_rfl) (by simp) ?_
    refine AllReadyL.cons (o := ⟨_, _, _, _, _, _⟩) rfl (fun K hK => ?_) ?_
    ·go_simp
     (with_reducible refine (contacts_p _ _ _ N x.id width hh _ (h.out.nx (KI.out.nx (K4.out.nx hHeld))) hn hc hm HW.out (hT.out.nx (KI.out.nx (K4.out.nx hHeld)))).mono ?_)
     rintro e wz ⟨vc, rfl, own2, kk⟩
     (try replace B13 := B13.nx kk)
     obtain ⟨A2, C2, rfl, _, _, _, _⟩ := own2.slf (fun _ => rfl)
     replace own2 := own2.base (Nat.le_trans hz6 hHeld.size)
     replace hHeld := hHeld.nx kk
     clear kk
     refine hK.out _ _ (hHeld) (fun hHeld => ?_)
     clear hK K
     refine tkL 12 (v := ?_) rfl (by kernel_rfl) (fun _ _ _ h => h) (by rfl) ?y1x12q51 (by assumption) ?z1x12q51
     case y1x12q51 => intro wq hSw; (go_simp); (try with_reducible rfl)
     refine wpAnyL_ready (rs := [13]) (by kernel_rfl) (by simp) ?_
     refine AllReadyL.cons (o := ⟨_, _, _, _, _, _⟩) rfl (fun K hK => ?_) AllReadyL.nil
     go_simp
     have z13 := hHeld.size
     obtain ⟨g13, wz, hg13, hwz, B13, kk⟩ := newPr hHeld
     rw [← hg13, ← hwz]
     have zg13 : w6.heap.size ≤ g13 := by omega
     clear hg13 hwz z13
     (try replace own2 := own2.nx kk)
     replace hHeld := hHeld.nx kk
     clear kk
     refine hK.out _ _ (hHeld) (fun hHeld => ?_)
     clear hK K
     refine wpAnyL_ready (rs := [14]) (by kernel_rfl) (by simp) ?_
     refine AllReadyL.consL (o := ⟨_, _, _, _, _, _⟩) rfl (by rfl) (fun K hK => ?_) AllReadyL.nil
     have c0 := B13.cell 0 _ rfl
     have c1 := B13.cell 1 _ rfl
     have c2 := B13.cell 2 _ rfl
     have c3 := B13.cell 3 _ rfl
     have c4 := B13.cell 4 _ rfl
     have f0 := B13.free 0
     have f1 := B13.free 1
     have f2 := B13.free 2
     have f3 := B13.free 3
     have f4 := B13.free 4
     go_simp
     clear c0 c1 c2 c3 c4 f0 f1 f2 f3 f4
     refine hK.out _ _ ?_
     clear hK K
     refine wpAnyL_done (by kernel_rfl) ?_ _
     obtain ⟨wk, hwk⟩ : ∃ wk, wk = ((((wz.setCell ⟨g13, 0, none⟩ (.int .i64 x.id)).setCell ⟨g13, 1, none⟩ (.slice A2 (contactsN N x.id width hh).length C2)).setCell ⟨g13, 2, none⟩ (.int .i64 nl)).setCell ⟨g13, 3, none⟩ (.int .i64 nr)).setCell ⟨g13, 4, none⟩ (.slice none 0 0) := ⟨_, rfl⟩
     rw [← hwk]
     have BP : Blk wk g13 [.int .i64 x.id, .slice A2 (contactsN N x.id width hh).length C2, .int .i64 nl, .int .i64 nr, .slice none 0 0] 41 := by rw [hwk]; exact ((((B13.set 0 _).set 1 _).set 2 _).set 3 _).set 4 _
     have KB : Exb g13 wz wk := by rw [hwk]; exact (((((Exb.refl g13 wz).setB (p := ⟨g13, 0, none⟩) _ rfl).setB (p := ⟨g13, 1, none⟩) _ rfl).setB (p := ⟨g13, 2, none⟩) _ rfl).setB (p := ⟨g13, 3, none⟩) _ rfl).setB (p := ⟨g13, 4, none⟩) _ rfl
     have CUT := lH (show PcRel N x width hh nl nr wi.heap.size w6 (.pointer (some ⟨g13, 0, none⟩)) wk from ⟨g13, A2, C2, rfl, zg13, BP, own2.put B13 (by decide) KB, (Exl.nxb (b := g13) (w := w6) ⟨hHeld, zg13⟩ KB).1⟩)
     clear hwk B13 KB hHeld BP own2
     go_wp2_with fail
     go_meet
     exact CUT.out
    refine AllReadyL.cons (o := ⟨_, _, _, _, _, _⟩) rfl (fun K hK => ?_) AllReadyL.nil
    ·go_simp
     have z13 := hHeld.size
     obtain ⟨g13, wz, hg13, hwz, B13, kk⟩ := newPr hHeld
     rw [← hg13, ← hwz]
     have zg13 : w6.heap.size ≤ g13 := by omega
     clear hg13 hwz z13
     (try replace own2 := own2.nx kk)
     replace hHeld := hHeld.nx kk
     clear kk
     refine hK.out _ _ (hHeld) (fun hHeld => ?_)
     clear hK K
     refine wpAnyL_ready (rs := [7]) (by kernel_rfl) (by simp) ?_
     refine AllReadyL.cons (o := ⟨_, _, _, _, _, _⟩) rfl (fun K hK => ?_) AllReadyL.nil
     go_simp
     (with_reducible refine (contacts_p _ _ _ N x.id width hh _ (h.out.nx (KI.out.nx (K4.out.nx hHeld))) hn hc hm HW.out (hT.out.nx (KI.out.nx (K4.out.nx hHeld)))).mono ?_)
     rintro e wz ⟨vc, rfl, own2, kk⟩
     (try replace B13 := B13.nx kk)
     obtain ⟨A2, C2, rfl, _, _, _, _⟩ := own2.slf (fun _ => rfl)
     replace own2 := own2.base (Nat.le_trans hz6 hHeld.size)
     replace hHeld := hHeld.nx kk
     clear kk
     refine hK.out _ _ (hHeld) (fun hHeld => ?_)
     clear hK K
     refine tkL 12 (v := ?_) rfl (by kernel_rfl) (fun _ _ _ h => h) (by rfl) ?y1x12q113 (by assumption) ?z1x12q113
     case y1x12q113 => intro wq hSw; (go_simp); (try with_reducible rfl)
     refine wpAnyL_ready (rs := [14]) (by kernel_rfl) (by simp) ?_
     refine AllReadyL.consL (o := ⟨_, _, _, _, _, _⟩) rfl (by rfl) (fun K hK => ?_) AllReadyL.nil
     have c0 := B13.cell 0 _ rfl
     have c1 := B13.cell 1 _ rfl
     have c2 := B13.cell 2 _ rfl
     have c3 := B13.cell 3 _ rfl
     have c4 := B13.cell 4 _ rfl
     have f0 := B13.free 0
     have f1 := B13.free 1
     have f2 := B13.free 2
     have f3 := B13.free 3
     have f4 := B13.free 4
     go_simp
     clear c0 c1 c2 c3 c4 f0 f1 f2 f3 f4
     refine hK.out _ _ ?_
     clear hK K
     refine wpAnyL_done (by kernel_rfl) ?_ _
     obtain ⟨wk, hwk⟩ : ∃ wk, wk = ((((wz.setCell ⟨g13, 0, none⟩ (.int .i64 x.id)).setCell ⟨g13, 1, none⟩ (.slice A2 (contactsN N x.id width hh).length C2)).setCell ⟨g13, 2, none⟩ (.int .i64 nl)).setCell ⟨g13, 3, none⟩ (.int .i64 nr)).setCell ⟨g13, 4, none⟩ (.slice none 0 0) := ⟨_, rfl⟩
     rw [← hwk]
     have BP : Blk wk g13 [.int .i64 x.id, .slice A2 (contactsN N x.id width hh).length C2, .int .i64 nl, .int .i64 nr, .slice none 0 0] 41 := by rw [hwk]; exact ((((B13.set 0 _).set 1 _).set 2 _).set 3 _).set 4 _
     have KB : Exb g13 wz wk := by rw [hwk]; exact (((((Exb.refl g13 wz).setB (p := ⟨g13, 0, none⟩) _ rfl).setB (p := ⟨g13, 1, none⟩) _ rfl).setB (p := ⟨g13, 2, none⟩) _ rfl).setB (p := ⟨g13, 3, none⟩) _ rfl).setB (p := ⟨g13, 4, none⟩) _ rfl
     have CUT := lH (show PcRel N x width hh nl nr wi.heap.size w6 (.pointer (some ⟨g13, 0, none⟩)) wk from ⟨g13, A2, C2, rfl, zg13, BP, own2.put B13 (by decide) KB, (Exl.nxb (b := g13) (w := w6) ⟨hHeld, zg13⟩ KB).1⟩)
     clear hwk B13 KB hHeld BP own2
     go_wp2_with fail
     go_meet
     exact CUT.out
   case rest =>
    obtain ⟨g13, A2, C2, rfl, zg13, BP, own2, k6⟩ := hcut
    rename World => wk
    have zgi : wi.heap.size ≤ g13 := by have := K4.out.size; omega
    have KW := lH (K4.out.nx k6)
    have hgk := BP.lt
    have B10k := lH (B10.out.nx k6)
    clear k6
    go_wp2_with fail
    go_loopw [55] (fun p wr => PnRel N x hh g13 (.slice A2 (contactsN N x.id width hh).length C2) nl nr wk p wr) (fun p _ => hh - (intOf p).toNat)
    case atStart => exact ⟨0, none, 0, 0, by omega, rfl, BP, OwnL.nil _ _ _ _ _, Exb.refl _ _⟩
    case round =>
     obtain ⟨lev, A, m, cc, hlev, rfl, BR, nrow, kv⟩ := hrel
     obtain ⟨wp, rfl⟩ : ∃ wp : World, wp = wr := ⟨_, rfl⟩
     have O2 := lH (own2.put BP (by decide) kv)
     have KV := lH (Exl.nxb (b := g13) (w := wi) ⟨KW.out, zgi⟩ kv).1
     by_cases hl2 : lev < hh
     ·have SP := lH (S3.out.nx (KI.out.nx KV.out))
      have KVV := lH kv
      have NSN : Hid ((List.range (lev + 1)).map (nearG N x) = (List.range lev).map (nearG N x) ++ [nearG N x lev]) := lH (by rw [List.range_succ, List.map_append]; rfl)
      have hrl : ((List.range lev).map (nearG N x)).length = lev := by simp
      generalize hyy : nearG N x lev = yy at NSN
      have HYY := lH hyy
      generalize (List.range lev).map (nearG N x) = row at nrow NSN hrl
      have BPP := lH BR
      have NROW := lH nrow
      have zk := kv.size
      have hi16 : lev < 16 := by omega
      clear hyy nrow kv BR BP own2
      have BN := lH (B10k.out.nxb (show g10 ≠ g13 by have := B10.out.lt; omega) KVV.out)
      have TV := lH (hT.out.nx (KI.out.nx KV.out))
      go_upto_region 13 with fail
      refine wp_region_late_drew (S := Ex wp) [7, 8, 9] (by kernel_rfl) ((Ex.refl wp).drew) (fun hHeld => ?_)
      obtain ⟨wd, hwdx⟩ : ∃ wd : World, wd = World.drew wp := ⟨_, rfl⟩
      rw [← hwdx] at hHeld ⊢
      have hDrew : Ex wp wd := by rw [hwdx]; exact (Ex.refl wp).drew
      clear hwdx
      refine tkL 0 (v := ?_) rfl (by kernel_rfl) (fun _ _ _ h => h) (by rfl) ?y2x0q5 (by assumption) ?z2x0q5
      case y2x0q5 => intro wq hSw; (go_simp); (try with_reducible rfl)
      refine tkL 1 (v := ?_) rfl (by kernel_rfl) (fun _ _ _ h => h) (by rfl) ?y2x1q8 (by assumption) ?z2x1q8
      case y2x1q8 => intro wq hSw; (have cq := (BPP.out.nx hSw).cell 4 _ rfl; go_simp); (try with_reducible rfl)
      refine tkL 2 (v := ?_) rfl (by kernel_rfl) (fun _ _ _ h => h) (by rfl) ?y2x2q11 (by assumption) ?z2x2q11
      case y2x2q11 => intro wq hSw; (go_simp); (try with_reducible rfl)
      refine tkL 3 (v := ?_) rfl (by kernel_rfl) (fun _ _ _ h => h) (by rfl) ?y2x3q14 (by assumption) ?z2x3q14
      case y2x3q14 => intro wq hSw; (have B := BN.out.nx hSw; have c0 := B.cell 0 _ rfl; have c1 := B.cell 1 _ rfl; have c2 := B.cell 2 _ rfl; go_simp); (try with_reducible rfl)
      refine tkL 4 (v := ?_) rfl (by kernel_rfl) (fun _ _ _ h => h) (by rfl) ?y2x4q17 (by assumption) ?z2x4q17
      case y2x4q17 => intro wq hSw; (go_simp); (try with_reducible rfl)
      refine wpAnyL_ready (rs := [5]) (by kernel_rfl) (by simp) ?_
      refine AllReadyL.cons (o := ⟨_, _, _, _, _, _⟩) rfl (fun K hK => ?_) AllReadyL.nil
      go_simp
      (with_reducible refine (near_p _ _ _ N x lev _ (SP.out.nx hHeld) hn HC.out HW.out HX.out hi16 (TV.out.nx hHeld)).mono ?_)
      rintro e wq ⟨rfl, kk⟩
      rw [HYY.out]
      simp only [encNr]
      replace hHeld := hHeld.nx kk
      clear kk
      refine hK.out _ _ (hHeld) (fun hHeld => ?_)
      clear hK K
      refine wpAnyL_ready (rs := [6]) (by kernel_rfl) (by simp) ?_
      refine AllReadyL.cons (o := ⟨_, _, _, _, _, _⟩) rfl (fun K hK => ?_) AllReadyL.nil
      go_simp
      obtain ⟨g8, wq2, hg8, hwq2, SX, kk⟩ := litN4 hHeld yy
      rw [← hg8, ← hwq2]
      replace hHeld := hHeld.nx kk
      clear hg8 hwq2 kk
      refine hK.out _ _ (hHeld) (fun hHeld => ?_)
      clear hK K
      refine wpAnyL_ready (rs := [7]) (by kernel_rfl) (by simp) ?_
      refine AllReadyL.consL (o := ⟨_, _, _, _, _, _⟩) rfl (by rfl) (fun K hK => ?_) AllReadyL.nil
      rw [if_pos (by rfl)]
      have own4 := NROW.out.nx hHeld
      refine wp_append_rd (enc := encNr) _ (.tmp 59) (.tmp 64) 39 rfl wk.heap.size 50 (.agg #[.int .i64 0, .int .i64 0, .int .i64 0, .int .i64 0]) 4 32 Tryz.underlying39 Tryz.infoNr rfl (by omega) (by omega) _ row own4 rfl _ _ 1 1 [yy] SX (fun h => by cases h) (fun _ => rfl) (by simp [encNr, Value.oneCell']) rfl (by omega) (by omega) (Nat.le_trans zk hHeld.size) ?_
      intro v9 wz own9 ch0 ch1
      obtain ⟨A9, C9, e9, _⟩ := own9.rd (fun _ => rfl)
      rw [show (row ++ [yy]).length = lev + 1 by rw [List.length_append, hrl]; rfl] at e9
      subst e9
      have BZ := (BPP.out.nx hHeld).low hgk ch1
      have KQ : Exb g13 wk wz := KVV.out.nxb' (hHeld.b g13) ch1
      refine hK.out _ _ ?_
      clear hK K
      refine wpAnyL_ready (rs := [8]) (by kernel_rfl) (by simp) ?_
      refine AllReadyL.consL (o := ⟨_, _, _, _, _, _⟩) rfl (by rfl) (fun K hK => ?_) AllReadyL.nil
      go_simp
      refine hK.out _ _ ?_
      clear hK K
      refine wpAnyL_ready (rs := [9]) (by kernel_rfl) (by simp) ?_
      refine AllReadyL.consL (o := ⟨_, _, _, _, _, _⟩) rfl (by rfl) (fun K hK => ?_) AllReadyL.nil
      have c4 := BZ.cell 4 _ rfl
      have f4 := BZ.free 4
      go_simp
      clear c4 f4
      refine hK.out _ _ ?_
      clear hK K
      refine wpAnyL_done (by kernel_rfl) ?_ _
      have BY := BZ.set 4 (.slice A9 (lev + 1) C9)
      have K9 : Exb g13 wk (wz.setCell ⟨g13, 4, none⟩ (.slice A9 (lev + 1) C9)) := KQ.setB (p := ⟨g13, 4, none⟩) _ rfl
      have own8 := lH (own9.put BZ (by decide) ((Exb.refl g13 wz).setB (p := ⟨g13, 4, none⟩) (.slice A9 (lev + 1) C9) rfl))
      have RR := lH (show PnRel N x hh g13 (.slice A2 (contactsN N x.id width hh).length C2) nl nr wk (.int .i64 ((lev : Int) + 1)) (wz.setCell ⟨g13, 4, none⟩ (.slice A9 (lev + 1) C9)) from ⟨lev + 1, A9, _, C9, by omega, by go_num, BY, by rw [NSN.out]; exact own8.out, K9⟩)
      clear BY K9 own8 own9 BZ KQ ch0 ch1 hHeld own4 SX
      go_wp2_with fail
      exact ⟨RR.out, by simp [intOf]; omega⟩
     ·obtain rfl : lev = hh := by omega
      have p0 := BR.cell 0 _ rfl
      have p1 := BR.cell 1 _ rfl
      have p2 := BR.cell 2 _ rfl
      have p3 := BR.cell 3 _ rfl
      have p4 := BR.cell 4 _ rfl
      have OP := lH (OWN.out.nx KV.out)
      have KN := KV.out.nx (Ex.new _ (.cells #[.int .i64 x.id, .slice A2 (contactsN N x.id width lev).length C2, .int .i64 nl, .int .i64 nr, .slice A m cc] 41))
      have zn := Nat.le_trans hwi KN.size
      have zwk := lH (nrow.base (KW.out.size))
      clear BR nrow kv hlev hl2 BP own2
      go_wp2_with (at_builtin; (refine wpList_append_W (enc := encQ) _ rfl _ _ 24 rfl w3.heap.size 41 (.agg #[.int .i64 0, .slice none 0 0, .int .i64 0, .int .i64 0, .slice none 0 0]) 5 72 Tryz.underlying24 Tryz.infoPr rfl (by omega) (by omega) _ qs (OP.out.nx (Ex.new _ _)).row rfl _ 1 1 [((x.id, nl, nr), (A2, (contactsN N x.id width lev).length, C2), (A, m, cc))] (Sl.lit _ rfl rfl encQ_len rfl) encQ_len encQ_one rfl (by omega) (by omega) zn ?_); intro v9 w9 own9 ch0 ch1 _)
      have RR := OWN.out.app (p := peerC N width lev x) (hk := (A2, (contactsN N x.id width lev).length, C2)) (hn := (A, m, cc)) (by decide) (by decide) hwi KN (by rw [PQ.out]; exact (O2.out.nx (Ex.new _ _))) (by rw [PQ.out]; exact (zwk.out.nx (Ex.new _ _))) (by rw [PQ.out]; exact own9) ch0
      exact ⟨⟨j + 1, _, by omega, by go_num, by rw [SN.out]; exact RR, Chg.trans (KI.out.nx KN) ch1⟩, by simp [intOf]; omega⟩
  ·obtain rfl : j = n := by omega
   rw [List.take_of_length_le (by omega)] at own
   have O := lH (own.lower EX.out.size)
   have KE := lH (EX.out.nx ki)
   clear own ki hj hjm
   go_wp2_with fail
   go_ret
   exact ⟨_, qs, rfl, by rw [FIN.out]; exact O.out, KE.out⟩
end Go.Proofs.YtlgdjigocopglaaGreatDoor
