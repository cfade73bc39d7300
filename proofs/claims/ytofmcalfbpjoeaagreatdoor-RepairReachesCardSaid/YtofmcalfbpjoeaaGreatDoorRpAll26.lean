/- Texts for RepairReachesProof, RepairCrashesProof, RepairJoinsProof, RepairCleansProof, RepairRejoinsProof. -/
import Derived.Deep.LoopGhost
import Derived.Test.YtofmcalfbpjoeaaGreatDoorRpAll1
import Derived.Test.YtofmcalfbpjoeaaGreatDoorRpAll2
import Derived.Test.YtofmcalfbpjoeaaGreatDoorRpAll3
import Derived.Test.YtofmcalfbpjoeaaGreatDoorRpAll6
import Derived.Test.YtofmcalfbpjoeaaGreatDoorRpAll11
import Derived.Test.YtofmcalfbpjoeaaGreatDoorRpAll12
import Derived.Test.YtofmcalfbpjoeaaGreatDoorRpAll13
import Derived.Test.YtofmcalfbpjoeaaGreatDoorRpAll14
import Derived.Test.YtofmcalfbpjoeaaGreatDoorRpAll18
import Derived.Test.YtofmcalfbpjoeaaGreatDoorRpAll19
import Derived.Test.YtofmcalfbpjoeaaGreatDoorRpAll20
import Derived.Test.YtofmcalfbpjoeaaGreatDoorRpAll21
import Derived.Test.YtofmcalfbpjoeaaGreatDoorRpAll22
import Derived.Test.YtofmcalfbpjoeaaGreatDoorRpAll23
import Derived.Test.YtofmcalfbpjoeaaGreatDoorRpAll24
import Derived.Test.YtofmcalfbpjoeaaGreatDoorRpAll25

namespace Go.Proofs.YtofmcalfbpjoeaaGreatDoor
open Go.RowKit Go.Maps
def PredI (g : Nat) (lb : Array Value) (id : Int) (w : World) : Prop := ∀ (x : Pr) (h1 h2 : Hdr) (w' : World), Ex w w' → Calls Tryz.prog g (#[.agg #[.int .i64 x.id, h1.val, .int .i64 x.left, .int .i64 x.right, h2.val]] ++ lb) w' fun e w'' => e = .returned (.bool (x.id == id)) ∧ Ex w' w''
def idxQ (id : Int) (P : List Pr) : Int := if P.findIdx (fun p => p.id == id) < P.length then (P.findIdx (fun p => p.id == id) : Int) else -1
theorem idxQ_of {P : List Pr} {id : Int} {k : Nat} {y : Pr} (hy : P[k]? = some y) (he : y.id = id) (hno : ∀ j z, j < k → P[j]? = some z → z.id ≠ id) : idxQ id P = k := by
 have hk := (List.getElem?_eq_some_iff.1 hy)
 have hkl := hk.1
 have h1 : P.findIdx (fun p => p.id == id) = k := by
  rw [List.findIdx_eq hkl]
  refine ⟨by rw [hk.2]; simpa using he, fun j hj => ?_⟩
  have := hno j _ hj (List.getElem?_eq_getElem (by omega))
  simpa using this
 unfold idxQ
 rw [h1, if_pos hkl]
theorem idxQ_none {P : List Pr} {id : Int} (hno : ∀ j z, j < P.length → P[j]? = some z → z.id ≠ id) : idxQ id P = -1 := by
 unfold idxQ
 rw [if_neg]
 intro h
 have h1 := List.findIdx_getElem (w := h)
 have h2 := hno _ _ h (List.getElem?_eq_getElem h)
 simp at h1
 exact h2 h1
theorem idxQ_cases (P : List Pr) (id : Int) : (∃ (k : Nat) (y : Pr), idxQ id P = k ∧ k < P.length ∧ P[k]? = some y ∧ peerN P id = y ∧ y.id = id) ∨ (idxQ id P = -1 ∧ peerN P id = ⟨id, 0, 0, [], []⟩) := by
 by_cases h : P.findIdx (fun p => p.id == id) < P.length
 ·have h1 : (P[P.findIdx (fun p => p.id == id)]).id = id := by simpa using List.findIdx_getElem (w := h)
  have hno : ∀ j z, j < P.findIdx (fun p => p.id == id) → P[j]? = some z → z.id ≠ id := fun j z hj hz => by
   have := List.not_of_lt_findIdx hj
   rw [List.getElem?_eq_getElem (by omega)] at hz
   cases hz
   simpa using this
  exact .inl ⟨_, _, by unfold idxQ; rw [if_pos h], h, List.getElem?_eq_getElem h, peerN_at (List.getElem?_eq_getElem h) h1 hno, h1⟩
 ·have hno : ∀ j z, j < P.length → P[j]? = some z → z.id ≠ id := fun j z hj hz => by
   have := List.not_of_lt_findIdx (p := fun p : Pr => p.id == id) (xs := P) (i := j) (by omega)
   rw [List.getElem?_eq_getElem (by omega)] at hz
   cases hz
   simpa using this
  exact .inr ⟨by unfold idxQ; rw [if_neg h], peerN_none hno⟩
set_option maxRecDepth 100000 in
set_option maxHeartbeats 2000000 in
theorem idxf_pr (g : Nat) (lb : Array Value) (id : Int) (eg : ∀ args w, (callFunc g args).run Tryz.prog w = .ok (.enter g args) w) (a : Option Addr) (n c : Nat) (P : List Pr) (w : World) (h : PL w a n P) (hn : n ≤ 4000000000000000000) (hp : PredI g lb id w) :
  Calls Tryz.prog 87 #[.slice a n c, .func (.func g) #[] lb] w fun e w' => e = .returned (.int .i64 (idxQ id P)) ∧ Ex w w' := by
 have HL := Lib.hid h.len
 have HP := Lib.hid hp
 have hs := Lib.hid h
 clear h hp
 go_enter Tryz.func87, Tryz.ntmps87
 go_wp2
 go_loopw [8] (fun i wr => PeRel P id n w i wr) (fun i _ => n - (intOf i).toNat)
 case atStart => exact ⟨0, by omega, rfl, Ex.refl _, by intro j z h; omega⟩
 case round =>
  obtain ⟨k, hk, rfl, kw, hno⟩ := hrel
  have HNO := Lib.hid hno
  clear hno
  obtain ⟨wo, rfl⟩ : ∃ wo : World, wo = wr := ⟨_, rfl⟩
  by_cases hlt : k < n
  ·obtain ⟨x3, o3, b1, m1, d1, b4, m4, d4, y, rfl, hx3, hy, e0, e1, e2, e3, e4, s1, s4⟩ := (hs.out.nx kw).rd hlt
   have HY := Lib.hid hy
   have hc := HP.out y (b1, m1, d1) (b4, m4, d4) wo kw
   have KW := Lib.hid kw
   simp only [Hdr.val] at hc
   clear hy kw s1 s4
   go_wp2_with fail
   refine hc.mono ?_
   rintro e w2 ⟨rfl, k2⟩
   have K2 := Lib.hid (KW.out.nx k2)
   clear hc k2 e0 e1 e2 e3 e4
   by_cases hv : y.id = id
   ·have HI : Hid (idxQ id P = k) := Lib.hid (idxQ_of HY.out hv HNO.out)
    have hb : (y.id == id) = true := by simpa using hv
    rw [hb]
    clear hv hb
    go_wp2_with fail
    go_ret
    exact ⟨by rw [HI.out]; rfl, K2.out⟩
   ·have HV := Lib.hid hv
    have hb : (y.id == id) = false := by simpa using hv
    rw [hb]
    clear hv hb
    go_wp2_with fail
    refine ⟨⟨k + 1, by omega, by go_num, K2.out, fun j z hj hz => ?_⟩, by simp [intOf]; omega⟩
    rcases Nat.lt_or_ge j k with h | h
    ·exact HNO.out j z h hz
    ·obtain rfl : j = k := by omega
     rw [Option.some.inj (hz.symm.trans HY.out)]
     exact HV.out
  ·obtain rfl : k = n := by omega
   have HI : Hid (idxQ id P = -1) := Lib.hid (idxQ_none (fun j z hj hz => HNO.out j z (by rw [← HL.out]; exact hj) hz))
   have KW := Lib.hid kw
   clear kw hk hlt
   go_wp2_with fail
   go_ret
   exact ⟨by rw [HI.out]; rfl, KW.out⟩
theorem find_word {N : List Nd} (hw : ∀ x ∈ N, x.word < 4294967296) (id : Int) (h : (findN N id).2 = true) : (findN N id).1.word < 4294967296 := hw _ (findN_mem h).1
set_option maxHeartbeats 1000000 in
theorem other_p (a : Option Addr) (n c : Nat) (N : List Nd) (id own : Int) (w : World) (h : Sl 3 encN w a n N) (hn : n ≤ 1000) :
  Calls Tryz.prog 122 #[.slice a n c, .int .i64 id, .int .i64 own] w fun e w' => e = .returned (.int .i64 (otherN N id own)) ∧ Ex w w' := by
 have EX := Ex.refl w
 have E1 : Hid (∀ o, o = (findN N id).2 → otherN N id own = if o = true ∧ id ≠ own then id else 0) := Lib.hid (fun o ho => by rw [ho]; rfl)
 go_enter Tryz.func122, Tryz.ntmps122
 go_wp2_with fail
 (with_reducible refine (find_p _ _ _ _ id _ h (by omega)).mono ?_)
 rintro e w1 ⟨rfl, kk⟩
 replace EX := EX.nx kk
 clear kk
 replace E1 := E1.out _ rfl
 obtain ⟨F, hF⟩ : ∃ F, F = findN N id := ⟨_, rfl⟩
 rw [← hF] at E1 ⊢
 clear hF h
 obtain ⟨⟨xi, xk, xw⟩, ok⟩ := F
 replace E1 := Lib.hid E1
 have B5 := Blk.new w1 [.int .i64 xi, .string xk, .int .u32 xw] 78
 have kk := Ex.new w1 (.cells #[.int .i64 xi, .string xk, .int .u32 xw] 78)
 obtain ⟨w2, hw2⟩ : ∃ w2, w2 = w1.alloc (.cells #[.int .i64 xi, .string xk, .int .u32 xw] 78) := ⟨_, rfl⟩
 obtain ⟨g5, hg5⟩ : ∃ g5, g5 = w1.heap.size := ⟨_, rfl⟩
 replace B5 : Blk w2 g5 [.int .i64 xi, .string xk, .int .u32 xw] 78 := by rw [hw2, hg5]; exact B5
 rw [← hw2] at kk
 have Hw2 := Lib.hid hw2
 have Hg5 := Lib.hid hg5
 replace EX := EX.nx kk
 clear kk hw2 hg5
 simp only [Nd.val]
 go_upto_region 2 with fail
 rw [← Hg5.out, ← Hw2.out]
 clear Hg5 Hw2
 clear B5
 cases ok with
 | false =>
  have E1 : Hid (otherN N id own = 0) := Lib.hid (E1.out.trans (if_neg (by simp)))
  go_wp2_with fail
  go_ret
  exact ⟨by rw [E1.out]; rfl, EX⟩
 | true =>
  by_cases he : id = own
  ·have EZ : Hid (otherN N id own = 0) := Lib.hid (E1.out.trans (if_neg (by simp [he])))
   have d1 : (id == own) = true := by simpa using he
   clear he E1
   go_wp2_with fail
   go_ret
   exact ⟨by rw [EZ.out]; rfl, EX⟩
  ·have EZ : Hid (otherN N id own = id) := Lib.hid (E1.out.trans (if_pos ⟨rfl, he⟩))
   have d1 : (id == own) = false := by simpa using he
   clear he E1
   go_wp2_with fail
   go_ret
   exact ⟨by rw [EZ.out]; rfl, EX⟩
theorem pair_no {N : List Nd} {nb : Int} (own : Int) (lev : Nat) (zero one : Int) (h : (findN N nb).2 = false) : pairB N own nb lev zero one = (0, 0) := by unfold pairB; rw [if_neg (by rw [h]; simp)]
theorem pair_z {N : List Nd} {nb : Int} (own : Int) (lev : Nat) (zero one : Int) (h : (findN N nb).2 = true) (hb : bitN (findN N nb).1.word lev = 0) : pairB N own nb lev zero one = ((findN N nb).1.id, otherN N one own) := by unfold pairB; rw [if_pos h, if_pos hb]
theorem pair_o {N : List Nd} {nb : Int} (own : Int) (lev : Nat) (zero one : Int) (h : (findN N nb).2 = true) (hb : ¬ bitN (findN N nb).1.word lev = 0) : pairB N own nb lev zero one = (otherN N zero own, (findN N nb).1.id) := by unfold pairB; rw [if_pos h, if_neg hb]
set_option maxRecDepth 100000 in
set_option maxHeartbeats 2000000 in
theorem pair_p (a : Option Addr) (n c : Nat) (N : List Nd) (own nb : Int) (lev : Nat) (zero one : Int) (w : World) (h : Sl 3 encN w a n N) (hn : n ≤ 1000) (hw : ∀ x ∈ N, x.word < 4294967296) (hl : lev ≤ 16) :
  Calls Tryz.prog 168 #[.slice a n c, .int .i64 own, .int .i64 nb, .int .i64 lev, .int .i64 zero, .int .i64 one] w fun e w' => e = .returned (.tuple #[.int .i64 (pairB N own nb lev zero one).1, .int .i64 (pairB N own nb lev zero one).2]) ∧ Ex w w' := by
 have EX := Ex.refl w
 have P0 := pair_no (N := N) (nb := nb) own lev zero one
 have P1 := pair_z (N := N) (nb := nb) own lev zero one
 have P2 := pair_o (N := N) (nb := nb) own lev zero one
 have FW := find_word hw nb
 clear hw
 go_enter Tryz.func168, Tryz.ntmps168
 generalize hPB : pairB N own nb lev zero one = PB at P0 P1 P2 ⊢
 clear hPB
 replace P0 := Lib.hid P0
 replace P1 := Lib.hid P1
 replace P2 := Lib.hid P2
 replace FW := Lib.hid FW
 go_wp2_with fail
 (with_reducible refine (find_p _ _ _ _ nb _ h (by omega)).mono ?_)
 rintro e w1 ⟨rfl, kk⟩
 replace EX := EX.nx kk
 replace h := h.nx kk
 clear kk
 replace P0 := P0.out
 replace P1 := P1.out
 replace P2 := P2.out
 replace FW := FW.out
 obtain ⟨F, hF⟩ : ∃ F, F = findN N nb := ⟨_, rfl⟩
 rw [← hF] at P0 P1 P2 FW ⊢
 clear hF
 obtain ⟨⟨xi, xk, xw⟩, ok⟩ := F
 have B5 := Blk.new w1 [.int .i64 xi, .string xk, .int .u32 xw] 78
 have kk := Ex.new w1 (.cells #[.int .i64 xi, .string xk, .int .u32 xw] 78)
 obtain ⟨w2, hw2⟩ : ∃ w2, w2 = w1.alloc (.cells #[.int .i64 xi, .string xk, .int .u32 xw] 78) := ⟨_, rfl⟩
 obtain ⟨g5, hg5⟩ : ∃ g5, g5 = w1.heap.size := ⟨_, rfl⟩
 replace B5 : Blk w2 g5 [.int .i64 xi, .string xk, .int .u32 xw] 78 := by rw [hw2, hg5]; exact B5
 rw [← hw2] at kk
 have Hw2 := Lib.hid hw2
 have Hg5 := Lib.hid hg5
 replace EX := EX.nx kk
 replace h := h.nx kk
 clear kk hw2 hg5
 simp only [Nd.val]
 go_upto_region 2 with fail
 rw [← Hg5.out, ← Hw2.out]
 clear Hg5 Hw2
 cases ok with
 | false =>
  have E1 := Lib.hid (P0 rfl)
  clear P0 P1 P2 FW h B5
  go_wp2_with fail
  go_ret2
  exact ⟨by rw [E1.out]; rfl, EX⟩
 | true =>
  have q2 := B5.cell 2 _ rfl
  have FWh := FW rfl
  by_cases hb : bitN xw lev = 0
  ·have E1 := Lib.hid (P1 rfl hb)
   have d1 : (((bitN xw lev : Nat) : Int) == 0) = true := by rw [hb]; rfl
   have BF : Hid (∀ wq, Ex w2 wq → wq.cell? ⟨g5, 0, none⟩ = some (.int .i64 xi)) := Lib.hid (fun wq kq => (B5.nx kq).cell 0 _ rfl)
   have H := Lib.hid h
   have K := Lib.hid EX
   clear P0 P1 P2 FW h B5 hb EX
   go_wp2_with fail
   refine (bit_p xw lev _ FWh (by omega) (by omega)).mono ?_
   rintro e w3 ⟨rfl, rfl⟩
   clear FWh
   go_upto_region 5 with fail
   clear q2
   refine wp_region_held_drew (S := Ex w2) (by kernel_rfl) ((Ex.refl w2).drew) (fun hHeld => ?_)
   obtain ⟨wd, hwdx⟩ : ∃ wd : World, wd = World.drew w2 := ⟨_, rfl⟩
   rw [← hwdx] at hHeld ⊢
   have hDrew : Ex w2 wd := by rw [hwdx]; exact (Ex.refl w2).drew
   clear hwdx
   refine wpAnyH_take (i := 0) (oi := ⟨_, _, _, _, _, _⟩) (v := ?_) rfl (by kernel_rfl) (by kernel_rfl) (by kernel_rfl) (fun _ _ _ h => h) (Or.inl ⟨by rfl, ?hyr1x0q5⟩) (by assumption) ?restr1x0q5
   case hyr1x0q5 => intro wq hSw; (go_simp); (try with_reducible rfl)
   refine wpAnyH_take (i := 1) (oi := ⟨_, _, _, _, _, _⟩) (v := ?_) rfl (by kernel_rfl) (by kernel_rfl) (by kernel_rfl) (fun _ _ _ h => h) (Or.inl ⟨by rfl, ?hyr1x1q8⟩) (by assumption) ?restr1x1q8
   case hyr1x1q8 => intro wq hSw; (have cq := BF.out wq hSw; go_simp); (try with_reducible rfl)
   refine wpAnyH_take (i := 2) (oi := ⟨_, _, _, _, _, _⟩) (v := ?_) rfl (by kernel_rfl) (by kernel_rfl) (by kernel_rfl) (fun _ _ _ h => h) (Or.inl ⟨by rfl, ?hyr1x2q11⟩) (by assumption) ?restr1x2q11
   case hyr1x2q11 => intro wq hSw; (go_simp); (try with_reducible rfl)
   refine wpAnyH_take (i := 3) (oi := ⟨_, _, _, _, _, _⟩) (v := ?_) rfl (by kernel_rfl) (by kernel_rfl) (by kernel_rfl) (fun _ _ _ h => h) (Or.inl ⟨by rfl, ?hyr1x3q14⟩) (by assumption) ?restr1x3q14
   case hyr1x3q14 => intro wq hSw; (go_simp); (try with_reducible rfl)
   refine wpAnyH_take (i := 4) (oi := ⟨_, _, _, _, _, _⟩) (v := ?_) rfl (by kernel_rfl) (by kernel_rfl) (by kernel_rfl) (fun _ _ _ h => h) (Or.inl ⟨by rfl, ?hyr1x4q17⟩) (by assumption) ?restr1x4q17
   case hyr1x4q17 => intro wq hSw; (go_simp); (try with_reducible rfl)
   refine wpAnyH_ready (rs := [5]) (by kernel_rfl) (by simp) ?_
   refine AllReadyH.cons (o := ⟨_, _, _, _, _, _⟩) rfl (fun K hK => ?_) AllReadyH.nil
   go_simp
   (with_reducible refine (other_p _ _ _ N one own _ (H.out.nx hHeld) hn).mono ?_)
   rintro e wb ⟨rfl, kk⟩
   replace hHeld := hHeld.nx kk
   clear kk
   refine hK.out _ _ (hHeld) (fun hHeld => ?_)
   clear hK K
   refine wpAnyH_take (i := 6) (oi := ⟨_, _, _, _, _, _⟩) (v := ?_) rfl (by kernel_rfl) (by kernel_rfl) (by kernel_rfl) (fun _ _ _ h => h) (Or.inl ⟨by rfl, ?hyr1x6q30⟩) (by assumption) ?restr1x6q30
   case hyr1x6q30 => intro wq hSw; (go_simp); (try with_reducible rfl)
   refine wpAnyH_take (i := 7) (oi := ⟨_, _, _, _, _, _⟩) (v := ?_) rfl (by kernel_rfl) (by kernel_rfl) (by kernel_rfl) (fun _ _ _ h => h) (Or.inl ⟨by rfl, ?hyr1x7q33⟩) (by assumption) ?restr1x7q33
   case hyr1x7q33 => intro wq hSw; (go_simp); (try with_reducible rfl)
   refine wpAnyH_done (by kernel_rfl) ?_ _
   have KE := Lib.hid (K.out.nx hHeld)
   clear hHeld hDrew
   go_wp2_with fail
   go_ret2
   exact ⟨by rw [E1.out]; rfl, KE.out⟩
  ·have E1 := Lib.hid (P2 rfl hb)
   have d1 : (((bitN xw lev : Nat) : Int) == 0) = false := by simpa using hb
   have BF : Hid (∀ wq, Ex w2 wq → wq.cell? ⟨g5, 0, none⟩ = some (.int .i64 xi)) := Lib.hid (fun wq kq => (B5.nx kq).cell 0 _ rfl)
   have H := Lib.hid h
   have K := Lib.hid EX
   clear P0 P1 P2 FW h B5 hb EX
   go_wp2_with fail
   refine (bit_p xw lev _ FWh (by omega) (by omega)).mono ?_
   rintro e w3 ⟨rfl, rfl⟩
   clear FWh
   go_upto_region 6 with fail
   clear q2
   refine wp_region_held_drew (S := Ex w2) (by kernel_rfl) ((Ex.refl w2).drew) (fun hHeld => ?_)
   obtain ⟨wd, hwdx⟩ : ∃ wd : World, wd = World.drew w2 := ⟨_, rfl⟩
   rw [← hwdx] at hHeld ⊢
   have hDrew : Ex w2 wd := by rw [hwdx]; exact (Ex.refl w2).drew
   clear hwdx
   refine wpAnyH_take (i := 0) (oi := ⟨_, _, _, _, _, _⟩) (v := ?_) rfl (by kernel_rfl) (by kernel_rfl) (by kernel_rfl) (fun _ _ _ h => h) (Or.inl ⟨by rfl, ?hyr2x0q5⟩) (by assumption) ?restr2x0q5
   case hyr2x0q5 => intro wq hSw; (go_simp); (try with_reducible rfl)
   refine wpAnyH_take (i := 1) (oi := ⟨_, _, _, _, _, _⟩) (v := ?_) rfl (by kernel_rfl) (by kernel_rfl) (by kernel_rfl) (fun _ _ _ h => h) (Or.inl ⟨by rfl, ?hyr2x1q8⟩) (by assumption) ?restr2x1q8
   case hyr2x1q8 => intro wq hSw; (go_simp); (try with_reducible rfl)
   refine wpAnyH_take (i := 2) (oi := ⟨_, _, _, _, _, _⟩) (v := ?_) rfl (by kernel_rfl) (by kernel_rfl) (by kernel_rfl) (fun _ _ _ h => h) (Or.inl ⟨by rfl, ?hyr2x2q11⟩) (by assumption) ?restr2x2q11
   case hyr2x2q11 => intro wq hSw; (go_simp); (try with_reducible rfl)
   refine wpAnyH_take (i := 4) (oi := ⟨_, _, _, _, _, _⟩) (v := ?_) rfl (by kernel_rfl) (by kernel_rfl) (by kernel_rfl) (fun _ _ _ h => h) (Or.inl ⟨by rfl, ?hyr2x4q14⟩) (by assumption) ?restr2x4q14
   case hyr2x4q14 => intro wq hSw; (go_simp); (try with_reducible rfl)
   refine wpAnyH_take (i := 5) (oi := ⟨_, _, _, _, _, _⟩) (v := ?_) rfl (by kernel_rfl) (by kernel_rfl) (by kernel_rfl) (fun _ _ _ h => h) (Or.inl ⟨by rfl, ?hyr2x5q17⟩) (by assumption) ?restr2x5q17
   case hyr2x5q17 => intro wq hSw; (have cq := BF.out wq hSw; go_simp); (try with_reducible rfl)
   refine wpAnyH_ready (rs := [3]) (by kernel_rfl) (by simp) ?_
   refine AllReadyH.cons (o := ⟨_, _, _, _, _, _⟩) rfl (fun K hK => ?_) AllReadyH.nil
   go_simp
   (with_reducible refine (other_p _ _ _ N zero own _ (H.out.nx hHeld) hn).mono ?_)
   rintro e wb ⟨rfl, kk⟩
   replace hHeld := hHeld.nx kk
   clear kk
   refine hK.out _ _ (hHeld) (fun hHeld => ?_)
   clear hK K
   refine wpAnyH_take (i := 6) (oi := ⟨_, _, _, _, _, _⟩) (v := ?_) rfl (by kernel_rfl) (by kernel_rfl) (by kernel_rfl) (fun _ _ _ h => h) (Or.inl ⟨by rfl, ?hyr2x6q30⟩) (by assumption) ?restr2x6q30
   case hyr2x6q30 => intro wq hSw; (go_simp); (try with_reducible rfl)
   refine wpAnyH_take (i := 7) (oi := ⟨_, _, _, _, _, _⟩) (v := ?_) rfl (by kernel_rfl) (by kernel_rfl) (by kernel_rfl) (fun _ _ _ h => h) (Or.inl ⟨by rfl, ?hyr2x7q33⟩) (by assumption) ?restr2x7q33
   case hyr2x7q33 => intro wq hSw; (go_simp); (try with_reducible rfl)
   refine wpAnyH_done (by kernel_rfl) ?_ _
   have KE := Lib.hid (K.out.nx hHeld)
   clear hHeld hDrew
   go_wp2_with fail
   go_ret2
   exact ⟨by rw [E1.out]; rfl, KE.out⟩
theorem at1_p (gx : Nat) (id : Int) (w : World) (hx : Blk w gx [.int .i64 id] 3) : PredI 187 #[.pointer (some ⟨gx, 0, none⟩)] id w := by
 intro p h1 h2 w' kk
 have q0 := (hx.nx kk).cell 0 _ rfl
 have hg := (hx.nx kk).lt
 have hne : ¬ gx = w'.heap.size := by omega
 obtain ⟨a1, n1, c1⟩ := h1
 obtain ⟨a2, n2, c2⟩ := h2
 simp only [Hdr.val]
 clear hx kk
 go_enter Tryz.func187, Tryz.ntmps187
 go_wp2
 go_ret
 exact ⟨rfl, (Ex.refl _).alloc _⟩
def nrV (x : Nr) : Value := .agg #[.int .i64 x.1, .int .i64 x.2.1, .int .i64 x.2.2.1, .int .i64 x.2.2.2]
theorem near_at {p : Pr} {i : Nat} {x : Nr} (h : p.near[i]? = some x) : nearAt p i = x := by unfold nearAt; rw [h]; rfl
theorem near_out {p : Pr} {i : Nat} (h : p.near.length ≤ i) : nearAt p i = (0, 0, 0, 0) := by unfold nearAt; rw [List.getElem?_eq_none h]; rfl
set_option maxRecDepth 100000 in
set_option maxHeartbeats 2000000 in
theorem at_p (a2 : Option Addr) (n2 c2 : Nat) (P : List Pr) (id : Int) (lev : Nat) (w : World) (h2 : PL w a2 n2 P) (hn2 : n2 ≤ 4000000000000000000) (hP : ∀ p ∈ P, p.near.length ≤ 4000000000000000000) (hl : lev ≤ 16) :
  Calls Tryz.prog 167 #[.slice a2 n2 c2, .int .i64 id, .int .i64 lev] w fun e w' => e = .returned (nrV (nearAt (peerN P id) lev)) ∧ Ex w w' := by
 have EG : Hid (∀ args w, (callFunc 187 args).run Tryz.prog w = .ok (.enter 187 args) w) := Lib.hid (enters_of Tryz.func187 (by kernel_rfl) rfl)
 have EX := Ex.refl w
 have HP := Lib.hid hP
 clear hP
 have hwi : w.heap.size ≤ w.heap.size := Nat.le_refl _
 obtain ⟨g4, hg4⟩ : ∃ g4, g4 = w.heap.size := ⟨_, rfl⟩
 obtain ⟨g6, hg6⟩ : ∃ g6, g6 = (w.heap.size + 1) := ⟨_, rfl⟩
 obtain ⟨w1, hw1⟩ : ∃ w1, w1 = ((w.alloc (.cells #[.int .i64 id] 3)).alloc (.cells #[.int .i64 0, .int .i64 0, .int .i64 0, .int .i64 0] 75)) := ⟨_, rfl⟩
 have kk : Ex w w1 := by rw [hw1]; exact (((Ex.refl w).alloc (.cells #[.int .i64 id] 3)).alloc (.cells #[.int .i64 0, .int .i64 0, .int .i64 0, .int .i64 0] 75))
 have B4 : Blk w1 g4 [.int .i64 id] 3 := by rw [hw1]; simp only [hg4, hg6]; have hbk := ((Blk.new w [.int .i64 id] 3).nx (Ex.new _ (.cells #[.int .i64 0, .int .i64 0, .int .i64 0, .int .i64 0] 75))); simpa using hbk
 have B6 : Blk w1 g6 [.int .i64 0, .int .i64 0, .int .i64 0, .int .i64 0] 75 := by rw [hw1]; simp only [hg4, hg6]; have hbk := (Blk.new (w.alloc (.cells #[.int .i64 id] 3)) [.int .i64 0, .int .i64 0, .int .i64 0, .int .i64 0] 75); simpa using hbk
 have Hw1 := Lib.hid hw1
 have Hg4 := Lib.hid hg4
 have Hg6 := Lib.hid hg6
 replace h2 := h2.nx kk
 replace EX := EX.nx kk
 have hz6 : w.heap.size ≤ g6 := by omega
 clear kk hw1 hg4 hg6
 go_enter Tryz.func167, Tryz.ntmps167
 go_upto_region 1 with fail
 rw [← Hw1.out, ← Hg6.out, ← Hg4.out]
 clear Hw1 Hg6 Hg4
 have PI := at1_p g4 id w1 B4
 replace B6 := Lib.hid B6
 clear B4
 go_wp2_with fail
 (with_reducible refine (idxf_pr _ _ _ EG.out _ _ _ P _ h2 hn2 PI).mono ?_)
 rintro e w2 ⟨rfl, kk⟩
 replace B6 := B6.out.nx kk
 replace EX := EX.nx kk
 replace h2 := h2.nx kk
 clear kk PI
 have f0 := B6.free 0
 have f1 := B6.free 1
 have f2 := B6.free 2
 have f3 := B6.free 3
 have c0 := B6.cell 0 _ rfl
 have c1 := B6.cell 1 _ rfl
 have c2 := B6.cell 2 _ rfl
 have c3 := B6.cell 3 _ rfl
 rcases idxQ_cases P id with ⟨k, y, hq, hkl, hyk, hpy, -⟩ | ⟨hq, hpy⟩
 ·rw [hq]
  have hk2 : k < n2 := by have := h2.len; omega
  have hk0 : ¬ (k : Int) < 0 := by omega
  have hk1 : (0 : Int) ≤ (k : Int) := by omega
  have hk3 : (k : Int) < (n2 : Int) := by omega
  obtain ⟨x5, o5, b1, m1, d1, b4, m4, d4, y', rfl, hx5, hy', e0, e1, e2, e3, e4, s1, s4⟩ := h2.rd hk2
  obtain rfl : y = y' := Option.some.inj (hyk.symm.trans hy')
  have hm4 := s4.len
  have hyP := HP.out y (List.mem_of_getElem? hyk)
  have HPY := Lib.hid hpy
  clear e0 e1 e2 e3 s1 hy' hkl hq hpy hyk h2
  by_cases hlt : lev < m4
  ·obtain ⟨x6, o6, ny, rfl, hx6, hny, hc6⟩ := s4.at hlt
   have V : Hid (nearAt (peerN P id) lev = ny) := Lib.hid (by rw [HPY.out]; exact near_at hny)
   have r0 : w2.cell? ⟨x6, o6 + lev * 4, none⟩ = some (.int .i64 ny.1) := hc6 0 _ rfl
   have r1 : w2.cell? ⟨x6, o6 + lev * 4 + 1, none⟩ = some (.int .i64 ny.2.1) := hc6 1 _ rfl
   have r2 : w2.cell? ⟨x6, o6 + lev * 4 + 1 + 1, none⟩ = some (.int .i64 ny.2.2.1) := by simpa [Nat.add_assoc] using hc6 2 _ rfl
   have r3 : w2.cell? ⟨x6, o6 + lev * 4 + 1 + 1 + 1, none⟩ = some (.int .i64 ny.2.2.2) := by simpa [Nat.add_assoc] using hc6 3 _ rfl
   have d1 : decide ((lev : Int) ≥ (m4 : Int)) = false := by simp; omega
   have d2 : decide ((m4 : Int) ≤ (lev : Int)) = false := by simp; omega
   have hl1 : (lev : Int) < (m4 : Int) := by omega
   have KE := Lib.hid ((((EX.setNew (p := ⟨g6, 0, none⟩) (.int .i64 ny.1) hz6).setNew (p := ⟨g6, 1, none⟩) (.int .i64 ny.2.1) hz6).setNew (p := ⟨g6, 2, none⟩) (.int .i64 ny.2.2.1) hz6).setNew (p := ⟨g6, 3, none⟩) (.int .i64 ny.2.2.2) hz6)
   clear s4 hc6 hny EX HPY
   go_wp2_with fail
   refine bodyPost_ret (v := nrV ny) (by simp [results, Tryz.results167, go_sem, nrV, *]) rfl ⟨by rw [V.out], KE.out⟩
  ·have V : Hid (nearAt (peerN P id) lev = (0, 0, 0, 0)) := Lib.hid (by rw [HPY.out]; exact near_out (by omega))
   have hge : m4 ≤ lev := by omega
   have KE := Lib.hid ((((EX.setNew (p := ⟨g6, 0, none⟩) (.int .i64 0) hz6).setNew (p := ⟨g6, 1, none⟩) (.int .i64 0) hz6).setNew (p := ⟨g6, 2, none⟩) (.int .i64 0) hz6).setNew (p := ⟨g6, 3, none⟩) (.int .i64 0) hz6)
   clear s4 EX HPY hlt
   go_wp2_with fail
   refine bodyPost_ret (v := nrV (0, 0, 0, 0)) (by simp [results, Tryz.results167, go_sem, nrV, *]) rfl ⟨by rw [V.out], KE.out⟩
 ·rw [hq]
  have V : Hid (nearAt (peerN P id) lev = (0, 0, 0, 0)) := Lib.hid (by rw [hpy]; exact near_out (Nat.zero_le _))
  have KE := Lib.hid ((((EX.setNew (p := ⟨g6, 0, none⟩) (.int .i64 0) hz6).setNew (p := ⟨g6, 1, none⟩) (.int .i64 0) hz6).setNew (p := ⟨g6, 2, none⟩) (.int .i64 0) hz6).setNew (p := ⟨g6, 3, none⟩) (.int .i64 0) hz6)
  clear hq hpy EX h2
  go_wp2_with fail
  refine bodyPost_ret (v := nrV (0, 0, 0, 0)) (by simp [results, Tryz.results167, go_sem, nrV, *]) rfl ⟨by rw [V.out], KE.out⟩
theorem link_no {N : List Nd} {p : Pr} {lev : Int} (h : ¬ ((findN N p.id).2 = true ∧ checkN N = 0 ∧ lvlN lev = true ∧ lev ≤ p.near.length)) : linkB N p lev = (0, 0) := by unfold linkB; rw [if_neg h]
theorem link_zero {N : List Nd} {p : Pr} {lev : Int} (h : (findN N p.id).2 = true ∧ checkN N = 0 ∧ lvlN lev = true ∧ lev ≤ p.near.length) (h0 : lev = 0) : linkB N p lev = (otherN N p.left p.id, otherN N p.right p.id) := by unfold linkB; rw [if_pos h, if_pos h0]
theorem link_bit {N : List Nd} {p : Pr} {lev : Int} {x : Nr} (h : (findN N p.id).2 = true ∧ checkN N = 0 ∧ lvlN lev = true ∧ lev ≤ p.near.length) (h0 : ¬ lev = 0) (hx : nearAt p (lev - 1).toNat = x) :
  (bitN (findN N p.id).1.word (lev - 1) = 1 → linkB N p lev = (otherN N x.2.1 p.id, otherN N x.2.2.2 p.id)) ∧ (¬ bitN (findN N p.id).1.word (lev - 1) = 1 → linkB N p lev = (otherN N x.1 p.id, otherN N x.2.2.1 p.id)) := by
 unfold linkB
 rw [if_pos h, if_neg h0, hx]
 exact ⟨fun hb => by rw [if_pos hb], fun hb => by rw [if_neg hb]⟩
theorem lvl_of {lev : Int} (h0 : 0 ≤ lev) (h1 : lev ≤ 16) : lvlN lev = true := by unfold lvlN; simp; omega
set_option maxRecDepth 100000 in
set_option maxHeartbeats 4000000 in
theorem link_p (a : Option Addr) (n c : Nat) (N : List Nd) (p : Pr) (a1 : Option Addr) (n1 c1 : Nat) (a2 : Option Addr) (n2 c2 : Nat) (lev : Int) (w : World) (h : Sl 3 encN w a n N) (hn : n ≤ 1000) (hc : n ≤ c) (hm : c ≤ maxLen) (hw : ∀ x ∈ N, x.word < 4294967296) (h2 : Sl 4 encNr w a2 n2 p.near) (hn2 : n2 ≤ 4000000000000000000) :
  Calls Tryz.prog 63 #[.slice a n c, .agg #[.int .i64 p.id, .slice a1 n1 c1, .int .i64 p.left, .int .i64 p.right, .slice a2 n2 c2], .int .i64 lev] w fun e w' => e = .returned (.agg #[.int .i64 (linkB N p lev).1, .int .i64 (linkB N p lev).2]) ∧ Ex w w' := by
 have EX := Ex.refl w
 have H0 := Lib.hid h
 have FW := Lib.hid (find_word hw p.id)
 have LN := Lib.hid (link_no (N := N) (p := p) (lev := lev))
 have LZ := Lib.hid (link_zero (N := N) (p := p) (lev := lev))
 have LB := Lib.hid (fun x => link_bit (N := N) (p := p) (lev := lev) (x := x))
 have hml := h2.len
 rw [hml] at LN LZ LB
 clear hw
 generalize hLB : linkB N p lev = L at LN LZ LB ⊢
 clear hLB
 obtain ⟨g4, hg4⟩ : ∃ g4, g4 = w.heap.size := ⟨_, rfl⟩
 obtain ⟨g6, hg6⟩ : ∃ g6, g6 = (w.heap.size + 1) := ⟨_, rfl⟩
 obtain ⟨w1, hw1⟩ : ∃ w1, w1 = ((w.alloc (.cells #[.int .i64 p.id, .slice a1 n1 c1, .int .i64 p.left, .int .i64 p.right, .slice a2 n2 c2] 42)).alloc (.cells #[.int .i64 0, .int .i64 0] 90)) := ⟨_, rfl⟩
 have kk : Ex w w1 := by rw [hw1]; exact (((Ex.refl w).alloc (.cells #[.int .i64 p.id, .slice a1 n1 c1, .int .i64 p.left, .int .i64 p.right, .slice a2 n2 c2] 42)).alloc (.cells #[.int .i64 0, .int .i64 0] 90))
 have B4 : Blk w1 g4 [.int .i64 p.id, .slice a1 n1 c1, .int .i64 p.left, .int .i64 p.right, .slice a2 n2 c2] 42 := by rw [hw1]; simp only [hg4, hg6]; have hbk := ((Blk.new w [.int .i64 p.id, .slice a1 n1 c1, .int .i64 p.left, .int .i64 p.right, .slice a2 n2 c2] 42).nx (Ex.new _ (.cells #[.int .i64 0, .int .i64 0] 90))); simpa using hbk
 have B6 : Blk w1 g6 [.int .i64 0, .int .i64 0] 90 := by rw [hw1]; simp only [hg4, hg6]; have hbk := (Blk.new (w.alloc (.cells #[.int .i64 p.id, .slice a1 n1 c1, .int .i64 p.left, .int .i64 p.right, .slice a2 n2 c2] 42)) [.int .i64 0, .int .i64 0] 90); simpa using hbk
 have Hw1 := Lib.hid hw1
 have Hg4 := Lib.hid hg4
 have Hg6 := Lib.hid hg6
 replace h := h.nx kk
 replace h2 := h2.nx kk
 replace EX := EX.nx kk
 have zg6 : w.heap.size ≤ g6 := by omega
 clear kk hw1 hg4 hg6
 go_enter Tryz.func63, Tryz.ntmps63
 go_upto_region 1 with fail
 rw [← Hw1.out, ← Hg6.out, ← Hg4.out]
 clear Hw1 Hg6 Hg4
 have q0 := B4.cell 0 _ rfl
 go_wp2_with fail
 (with_reducible refine (find_p _ _ _ _ p.id _ h (by omega)).mono ?_)
 rintro e w2 ⟨rfl, kk⟩
 replace h := h.nx kk
 replace h2 := h2.nx kk
 replace EX := EX.nx kk
 replace B4 := B4.nx kk
 replace B6 := B6.nx kk
 clear kk
 replace FW := FW.out
 replace LN := LN.out
 replace LZ := LZ.out
 replace LB := LB.out
 obtain ⟨F, hF⟩ : ∃ F, F = findN N p.id := ⟨_, rfl⟩
 rw [← hF] at FW LN LZ LB ⊢
 clear hF q0
 obtain ⟨⟨xi, xk, xw⟩, ok⟩ := F
 replace FW := Lib.hid FW
 replace LN := Lib.hid LN
 replace LZ := Lib.hid LZ
 replace LB := Lib.hid LB
 have B7 := Blk.new w2 [.int .i64 xi, .string xk, .int .u32 xw] 78
 have kk := Ex.new w2 (.cells #[.int .i64 xi, .string xk, .int .u32 xw] 78)
 obtain ⟨w3, hw3⟩ : ∃ w3, w3 = w2.alloc (.cells #[.int .i64 xi, .string xk, .int .u32 xw] 78) := ⟨_, rfl⟩
 obtain ⟨g7, hg7⟩ : ∃ g7, g7 = w2.heap.size := ⟨_, rfl⟩
 replace B7 : Blk w3 g7 [.int .i64 xi, .string xk, .int .u32 xw] 78 := by rw [hw3, hg7]; exact B7
 rw [← hw3] at kk
 have Hw3 := Lib.hid hw3
 have Hg7 := Lib.hid hg7
 replace h := h.nx kk
 replace h2 := h2.nx kk
 replace EX := EX.nx kk
 replace B4 := B4.nx kk
 replace B6 := B6.nx kk
 clear kk hw3 hg7
 simp only [Nd.val]
 go_upto_region 2 with fail
 rw [← Hg7.out, ← Hw3.out]
 clear Hg7 Hw3
 have FAIL : ∀ wz, wz = w3 → 1 = 1 := fun _ _ => rfl
 clear FAIL
 by_cases hok : ok = true
 case neg =>
  obtain rfl : ok = false := by simpa using hok
  have E0 : Hid (L = (0, 0)) := Lib.hid (LN.out (fun hh => by cases hh.1))
  have r0 := B6.cell 0 _ rfl
  have r1 := B6.cell 1 _ rfl
  have f0 := B6.free 0
  have f1 := B6.free 1
  have KE := Lib.hid ((EX.setNew (p := ⟨g6, 0, none⟩) (.int .i64 0) zg6).setNew (p := ⟨g6, 1, none⟩) (.int .i64 0) zg6)
  clear h h2 EX B4 B6 B7 hok
  go_wp2_with fail
  refine bodyPost_ret (v := .agg #[.int .i64 0, .int .i64 0]) (by simp [results, Tryz.results63, go_sem, *]) rfl ⟨by rw [E0.out], KE.out⟩
 subst hok
 go_wp2_with fail
 (with_reducible refine (check_p _ _ _ _ _ h (by omega) hc hm).mono ?_)
 rintro e w4 ⟨rfl, kk⟩
 replace h := h.nx kk
 replace h2 := h2.nx kk
 replace EX := EX.nx kk
 replace B4 := B4.nx kk
 replace B6 := B6.nx kk
 replace B7 := B7.nx kk
 clear kk
 by_cases hbad : ¬ checkN N = 0 ∨ lev < 0 ∨ 16 < lev ∨ (n2 : Int) < lev
 case pos =>
  have E0 : Hid (L = (0, 0)) := Lib.hid (LN.out (fun hh => by
   rcases hbad with hb | hb | hb | hb
   ·exact hb hh.2.1
   ·have := hh.2.2.1; unfold lvlN at this; simp at this; omega
   ·have := hh.2.2.1; unfold lvlN at this; simp at this; omega
   ·have := hh.2.2.2; omega))
  have p4 := B4.cell 4 _ rfl
  have r0 := B6.cell 0 _ rfl
  have r1 := B6.cell 1 _ rfl
  have f0 := B6.free 0
  have f1 := B6.free 1
  have KE := Lib.hid ((EX.setNew (p := ⟨g6, 0, none⟩) (.int .i64 0) zg6).setNew (p := ⟨g6, 1, none⟩) (.int .i64 0) zg6)
  clear h h2 EX B4 B6 B7
  have HB : ((checkN N != 0) || (decide (lev < 0) || (decide (lev > 16) || decide (lev > (n2 : Int))))) = true := by
   rcases hbad with hb | hb | hb | hb
   ·have : (checkN N != 0) = true := by simpa using hb
    rw [this]; rfl
   ·have : decide (lev < 0) = true := by simpa using hb
    rw [this]; simp
   ·have : decide (lev > 16) = true := by simpa using hb
    rw [this]; simp
   ·have : decide (lev > (n2 : Int)) = true := by simpa using hb
    rw [this]; simp
  clear hbad
  by_cases b1 : checkN N = 0
  case neg =>
   have d1 : (checkN N != 0) = true := by simpa using b1
   clear HB b1
   go_wp2_with fail
   refine bodyPost_ret (v := .agg #[.int .i64 0, .int .i64 0]) (by simp [results, Tryz.results63, go_sem, *]) rfl ⟨by rw [E0.out], KE.out⟩
  have d1 : (checkN N != 0) = false := by simpa using b1
  rw [d1] at HB
  clear b1
  by_cases b2 : lev < 0
  ·clear HB
   go_wp2_with fail
   refine bodyPost_ret (v := .agg #[.int .i64 0, .int .i64 0]) (by simp [results, Tryz.results63, go_sem, *]) rfl ⟨by rw [E0.out], KE.out⟩
  by_cases b3 : lev > 16
  ·clear HB
   go_wp2_with fail
   refine bodyPost_ret (v := .agg #[.int .i64 0, .int .i64 0]) (by simp [results, Tryz.results63, go_sem, *]) rfl ⟨by rw [E0.out], KE.out⟩
  have b4 : lev > (n2 : Int) := by
   have e2 : decide (lev < 0) = false := by simpa using b2
   have e3 : decide (lev > 16) = false := by simpa using b3
   rw [e2, e3] at HB
   simpa using HB
  clear HB
  go_wp2_with fail
  refine bodyPost_ret (v := .agg #[.int .i64 0, .int .i64 0]) (by simp [results, Tryz.results63, go_sem, *]) rfl ⟨by rw [E0.out], KE.out⟩
 have hck : checkN N = 0 := Decidable.byContradiction (fun h => hbad (.inl h))
 have hl0 : 0 ≤ lev := by omega
 have hl1 : lev ≤ 16 := by omega
 have hl2 : lev ≤ (n2 : Int) := by omega
 have CND : Hid (True ∧ checkN N = 0 ∧ lvlN lev = true ∧ lev ≤ (n2 : Int)) := Lib.hid ⟨trivial, hck, lvl_of hl0 hl1, hl2⟩
 have d1 : (checkN N != 0) = false := by simpa using hck
 have d2 : decide (lev < 0) = false := by simp; omega
 have d3 : decide (lev > 16) = false := by simp; omega
 have d4 : decide (lev > (n2 : Int)) = false := by simp; omega
 have FWh := FW.out trivial
 clear hbad hck LN FW
 obtain ⟨k, rfl⟩ := Int.eq_ofNat_of_zero_le hl0
 have p2 := B4.cell 2 _ rfl
 have p3 := B4.cell 3 _ rfl
 have p4 := B4.cell 4 _ rfl
 go_upto_region 4 with fail
 by_cases h0 : (k : Int) = 0
 ·have E0 := Lib.hid (LZ.out CND.out h0)
  have hk0 : k = 0 := by omega
  subst hk0
  have B9 := Blk.new w4 [.int .i64 p.left, .int .i64 p.right] 90
  have kk := Ex.new w4 (.cells #[.int .i64 p.left, .int .i64 p.right] 90)
  obtain ⟨w5, hw5⟩ : ∃ w5, w5 = w4.alloc (.cells #[.int .i64 p.left, .int .i64 p.right] 90) := ⟨_, rfl⟩
  obtain ⟨g9, hg9⟩ : ∃ g9, g9 = w4.heap.size := ⟨_, rfl⟩
  replace B9 : Blk w5 g9 [.int .i64 p.left, .int .i64 p.right] 90 := by rw [hw5, hg9]; exact B9
  rw [← hw5] at kk
  have Hw5 := Lib.hid hw5
  have Hg9 := Lib.hid hg9
  replace EX := EX.nx kk
  replace B4 := B4.nx kk
  replace B6 := B6.nx kk
  clear kk hw5 hg9
  clear h h2 B7 LZ LB h0
  go_upto_region 10 with fail
  clear p2 p3 p4
  rw [← Hg9.out, ← Hw5.out]
  clear Hg9 Hw5
  have Y0 : Hid (∀ wq, Ex w5 wq → wq.cell? ⟨g9, 0, none⟩ = some (.int .i64 p.left)) := Lib.hid (fun wq kq => (B9.nx kq).cell 0 _ rfl)
  have Y1 : Hid (∀ wq, Ex w5 wq → wq.cell? ⟨g9, 1, none⟩ = some (.int .i64 p.right)) := Lib.hid (fun wq kq => (B9.nx kq).cell 1 _ rfl)
  have QI : Hid (∀ wq, Ex w5 wq → wq.cell? ⟨g4, 0, none⟩ = some (.int .i64 p.id)) := Lib.hid (fun wq kq => (B4.nx kq).cell 0 _ rfl)
  have HS := Lib.hid (H0.out.nx EX)
  have K := Lib.hid EX
  replace B6 := Lib.hid B6
  clear B9 B4 EX
  refine wp_region_late_drew (S := Ex w5) [13] (by kernel_rfl) ((Ex.refl w5).drew) (fun hHeld => ?_)
  obtain ⟨wd, hwdx⟩ : ∃ wd : World, wd = World.drew w5 := ⟨_, rfl⟩
  rw [← hwdx] at hHeld ⊢
  have hDrew : Ex w5 wd := by rw [hwdx]; exact (Ex.refl w5).drew
  clear hwdx
  refine wpAnyL_take (i := 0) (oi := ⟨_, _, _, _, _, _⟩) (v := ?_) rfl (by kernel_rfl) (by kernel_rfl) (by kernel_rfl) (fun _ _ _ h => h) (Or.inl ⟨by rfl, ?hyr1x0q5⟩) (by kernel_rfl) (by kernel_rfl) (by assumption) ?restr1x0q5
  case hyr1x0q5 => intro wq hSw; (go_simp); (try with_reducible rfl)
  refine wpAnyL_take (i := 1) (oi := ⟨_, _, _, _, _, _⟩) (v := ?_) rfl (by kernel_rfl) (by kernel_rfl) (by kernel_rfl) (fun _ _ _ h => h) (Or.inl ⟨by rfl, ?hyr1x1q8⟩) (by kernel_rfl) (by kernel_rfl) (by assumption) ?restr1x1q8
  case hyr1x1q8 => intro wq hSw; (go_simp); (try with_reducible rfl)
  refine wpAnyL_take (i := 2) (oi := ⟨_, _, _, _, _, _⟩) (v := ?_) rfl (by kernel_rfl) (by kernel_rfl) (by kernel_rfl) (fun _ _ _ h => h) (Or.inl ⟨by rfl, ?hyr1x2q11⟩) (by kernel_rfl) (by kernel_rfl) (by assumption) ?restr1x2q11
  case hyr1x2q11 => intro wq hSw; (have cq := Y0.out wq hSw; go_simp); (try with_reducible rfl)
  refine wpAnyL_take (i := 3) (oi := ⟨_, _, _, _, _, _⟩) (v := ?_) rfl (by kernel_rfl) (by kernel_rfl) (by kernel_rfl) (fun _ _ _ h => h) (Or.inl ⟨by rfl, ?hyr1x3q14⟩) (by kernel_rfl) (by kernel_rfl) (by assumption) ?restr1x3q14
  case hyr1x3q14 => intro wq hSw; (go_simp); (try with_reducible rfl)
  refine wpAnyL_take (i := 4) (oi := ⟨_, _, _, _, _, _⟩) (v := ?_) rfl (by kernel_rfl) (by kernel_rfl) (by kernel_rfl) (fun _ _ _ h => h) (Or.inl ⟨by rfl, ?hyr1x4q17⟩) (by kernel_rfl) (by kernel_rfl) (by assumption) ?restr1x4q17
  case hyr1x4q17 => intro wq hSw; (have cq := QI.out wq hSw; go_simp); (try with_reducible rfl)
  refine wpAnyL_take (i := 6) (oi := ⟨_, _, _, _, _, _⟩) (v := ?_) rfl (by kernel_rfl) (by kernel_rfl) (by kernel_rfl) (fun _ _ _ h => h) (Or.inl ⟨by rfl, ?hyr1x6q20⟩) (by kernel_rfl) (by kernel_rfl) (by assumption) ?restr1x6q20
  case hyr1x6q20 => intro wq hSw; (go_simp); (try with_reducible rfl)
  refine wpAnyL_take (i := 7) (oi := ⟨_, _, _, _, _, _⟩) (v := ?_) rfl (by kernel_rfl) (by kernel_rfl) (by kernel_rfl) (fun _ _ _ h => h) (Or.inl ⟨by rfl, ?hyr1x7q23⟩) (by kernel_rfl) (by kernel_rfl) (by assumption) ?restr1x7q23
  case hyr1x7q23 => intro wq hSw; (go_simp); (try with_reducible rfl)
  refine wpAnyL_take (i := 8) (oi := ⟨_, _, _, _, _, _⟩) (v := ?_) rfl (by kernel_rfl) (by kernel_rfl) (by kernel_rfl) (fun _ _ _ h => h) (Or.inl ⟨by rfl, ?hyr1x8q26⟩) (by kernel_rfl) (by kernel_rfl) (by assumption) ?restr1x8q26
  case hyr1x8q26 => intro wq hSw; (have cq := Y1.out wq hSw; go_simp); (try with_reducible rfl)
  refine wpAnyL_take (i := 9) (oi := ⟨_, _, _, _, _, _⟩) (v := ?_) rfl (by kernel_rfl) (by kernel_rfl) (by kernel_rfl) (fun _ _ _ h => h) (Or.inl ⟨by rfl, ?hyr1x9q29⟩) (by kernel_rfl) (by kernel_rfl) (by assumption) ?restr1x9q29
  case hyr1x9q29 => intro wq hSw; (go_simp); (try with_reducible rfl)
  refine wpAnyL_take (i := 10) (oi := ⟨_, _, _, _, _, _⟩) (v := ?_) rfl (by kernel_rfl) (by kernel_rfl) (by kernel_rfl) (fun _ _ _ h => h) (Or.inl ⟨by rfl, ?hyr1x10q32⟩) (by kernel_rfl) (by kernel_rfl) (by assumption) ?restr1x10q32
  case hyr1x10q32 => intro wq hSw; (have cq := QI.out wq hSw; go_simp); (try with_reducible rfl)
  refine wpAnyL_ready (rs := [5]) (by kernel_rfl) (by simp) ?_
  refine AllReadyL.cons (o := ⟨_, _, _, _, _, _⟩) rfl (fun K hK => ?_) AllReadyL.nil
  go_simp
  (with_reducible refine (other_p _ _ _ N p.left p.id _ (HS.out.nx hHeld) hn).mono ?_)
  rintro e wb ⟨rfl, kk⟩
  replace hHeld := hHeld.nx kk
  clear kk
  refine hK.out _ _ (hHeld) (fun hHeld => ?_)
  clear hK K
  refine wpAnyL_ready (rs := [11]) (by kernel_rfl) (by simp) ?_
  refine AllReadyL.cons (o := ⟨_, _, _, _, _, _⟩) rfl (fun K hK => ?_) AllReadyL.nil
  go_simp
  (with_reducible refine (other_p _ _ _ N p.right p.id _ (HS.out.nx hHeld) hn).mono ?_)
  rintro e wc ⟨rfl, kk⟩
  replace hHeld := hHeld.nx kk
  clear kk
  have B6z := B6.out.nx hHeld
  have f0 := B6z.free 0
  have f1 := B6z.free 1
  have r0 := B6z.cell 0 _ rfl
  have r1 := B6z.cell 1 _ rfl
  refine hK.out _ _ (hHeld) (fun hHeld => ?_)
  clear hK K
  refine wpAnyL_take (i := 12) (oi := ⟨_, _, _, _, _, _⟩) (v := ?_) rfl (by kernel_rfl) (by kernel_rfl) (by kernel_rfl) (fun _ _ _ h => h) (Or.inl ⟨by rfl, ?hyr1x12q60⟩) (by kernel_rfl) (by kernel_rfl) (by assumption) ?restr1x12q60
  case hyr1x12q60 => intro wq hSw; (go_simp); (try with_reducible rfl)
  refine wpAnyL_ready (rs := [13]) (by kernel_rfl) (by simp) ?_
  refine AllReadyL.consL (o := ⟨_, _, _, _, _, _⟩) rfl (by rfl) (fun K hK => ?_) AllReadyL.nil
  go_simp
  refine hK.out _ _ ?_
  clear hK K
  refine wpAnyL_done (by kernel_rfl) ?_ _
  have KE := Lib.hid (((K.out.nx hHeld).setNew (p := ⟨g6, 0, none⟩) (.int .i64 (otherN N p.left p.id)) zg6).setNew (p := ⟨g6, 1, none⟩) (.int .i64 (otherN N p.right p.id)) zg6)
  clear hDrew hHeld B6z
  go_wp2_with fail
  refine bodyPost_ret (v := .agg #[.int .i64 (otherN N p.left p.id), .int .i64 (otherN N p.right p.id)]) (by simp [results, Tryz.results63, go_sem, *]) rfl ⟨by rw [E0.out], KE.out⟩
 ·obtain ⟨x6, o6, ny, rfl, hx6, hny, hc6⟩ := h2.at (show k - 1 < n2 by omega)
  have LX := Lib.hid (LB.out ny CND.out h0 (by rw [show ((k : Int) - 1).toNat = k - 1 by omega]; exact near_at hny))
  have r0 : w4.cell? ⟨x6, o6 + (k - 1) * 4, none⟩ = some (.int .i64 ny.1) := hc6 0 _ rfl
  have r1 : w4.cell? ⟨x6, o6 + (k - 1) * 4 + 1, none⟩ = some (.int .i64 ny.2.1) := hc6 1 _ rfl
  have r2 : w4.cell? ⟨x6, o6 + (k - 1) * 4 + 1 + 1, none⟩ = some (.int .i64 ny.2.2.1) := by simpa [Nat.add_assoc] using hc6 2 _ rfl
  have r3 : w4.cell? ⟨x6, o6 + (k - 1) * 4 + 1 + 1 + 1, none⟩ = some (.int .i64 ny.2.2.2) := by simpa [Nat.add_assoc] using hc6 3 _ rfl
  have hkp : (0 : Int) < (k : Int) := by omega
  have hwk : IntKind.i64.wrap ((k : Int) - 1) = (k : Int) - 1 := IntWalk.i64_in _ (by omega)
  have h01 : (1 : Int) ≤ (k : Int) := by omega
  have h02 : (k : Int) - 1 < (n2 : Int) := by omega
  have hl4 := B4.lt
  have hl6 := B6.lt
  have hl7 := B7.lt
  have zz := EX.size
  have B9 := Blk.new w4 [.int .i64 p.left, .int .i64 p.right] 90
  have kk := Ex.new w4 (.cells #[.int .i64 p.left, .int .i64 p.right] 90)
  obtain ⟨w5, hw5⟩ : ∃ w5, w5 = w4.alloc (.cells #[.int .i64 p.left, .int .i64 p.right] 90) := ⟨_, rfl⟩
  obtain ⟨g9, hg9⟩ : ∃ g9, g9 = w4.heap.size := ⟨_, rfl⟩
  replace B9 : Blk w5 g9 [.int .i64 p.left, .int .i64 p.right] 90 := by rw [hw5, hg9]; exact B9
  rw [← hw5] at kk
  have Hw5 := Lib.hid hw5
  have Hg9 := Lib.hid hg9
  replace EX := EX.nx kk
  replace B4 := B4.nx kk
  replace B6 := B6.nx kk
  replace B7 := B7.nx kk
  have zg9 : w.heap.size ≤ g9 := by omega
  have h49 : ¬ g4 = g9 := by omega
  have h69 : ¬ g6 = g9 := by omega
  have h79 : ¬ g7 = g9 := by omega
  have t0 := Chg.cellv kk r0 hx6
  have t1 := Chg.cellv kk r1 hx6
  have t2 := Chg.cellv kk r2 hx6
  have t3 := Chg.cellv kk r3 hx6
  clear r0 r1 r2 r3 kk hw5 hg9 h h2 hc6 hny LB LZ h0 hl4 hl6 hl7 zz
  go_upto_region 5 with fail
  rw [← Hg9.out, ← Hw5.out]
  clear Hg9 Hw5
  have p4 := B4.cell 4 _ rfl
  clear p2 p3
  have hl9 := B9.lt
  have B10 := Blk.new w5 [.int .i64 ny.1, .int .i64 ny.2.1, .int .i64 ny.2.2.1, .int .i64 ny.2.2.2] 75
  have kk := Ex.new w5 (.cells #[.int .i64 ny.1, .int .i64 ny.2.1, .int .i64 ny.2.2.1, .int .i64 ny.2.2.2] 75)
  obtain ⟨w6, hw6⟩ : ∃ w6, w6 = w5.alloc (.cells #[.int .i64 ny.1, .int .i64 ny.2.1, .int .i64 ny.2.2.1, .int .i64 ny.2.2.2] 75) := ⟨_, rfl⟩
  obtain ⟨g10, hg10⟩ : ∃ g10, g10 = w5.heap.size := ⟨_, rfl⟩
  replace B10 : Blk w6 g10 [.int .i64 ny.1, .int .i64 ny.2.1, .int .i64 ny.2.2.1, .int .i64 ny.2.2.2] 75 := by rw [hw6, hg10]; exact B10
  rw [← hw6] at kk
  have Hw6 := Lib.hid hw6
  have Hg10 := Lib.hid hg10
  replace EX := EX.nx kk
  replace B4 := B4.nx kk
  replace B6 := B6.nx kk
  replace B7 := B7.nx kk
  replace B9 := B9.nx kk
  have h10 : ¬ g10 = g9 := by omega
  clear kk hw6 hg10 hl9
  go_upto_region 7 with fail
  rw [← Hg10.out, ← Hw6.out]
  clear Hg10 Hw6
  clear t0 t1 t2 t3 p4
  have u0 := B10.cell 0 _ rfl
  have u2 := B10.cell 2 _ rfl
  have f0 := B9.free 0
  have f1 := B9.free 1
  have v0 := B9.cell 0 _ rfl
  have v1 := B9.cell 1 _ rfl
  have KB0 : Exb g9 w6 ((w6.setCell ⟨g9, 0, none⟩ (.int .i64 ny.1)).setCell ⟨g9, 1, none⟩ (.int .i64 ny.2.2.1)) := ((Exb.refl g9 w6).setB (p := ⟨g9, 0, none⟩) _ rfl).setB (p := ⟨g9, 1, none⟩) _ rfl
  have BS0 : Blk ((w6.setCell ⟨g9, 0, none⟩ (.int .i64 ny.1)).setCell ⟨g9, 1, none⟩ (.int .i64 ny.2.2.1)) g9 [.int .i64 ny.1, .int .i64 ny.2.2.1] 90 := (B9.set 0 (.int .i64 ny.1)).set 1 (.int .i64 ny.2.2.1)
  have KS0 : Ex w ((w6.setCell ⟨g9, 0, none⟩ (.int .i64 ny.1)).setCell ⟨g9, 1, none⟩ (.int .i64 ny.2.2.1)) := (EX.setNew (p := ⟨g9, 0, none⟩) _ zg9).setNew (p := ⟨g9, 1, none⟩) _ zg9
  replace B4 := Lib.hid B4
  replace B6 := Lib.hid B6
  replace B7 := Lib.hid B7
  replace B10 := Lib.hid B10
  replace KB0 := Lib.hid KB0
  replace BS0 := Lib.hid BS0
  replace KS0 := Lib.hid KS0
  clear B9 EX
  go_upto_region 8 with fail
  obtain ⟨w7, hw7⟩ : ∃ w7, w7 = ((w6.setCell ⟨g9, 0, none⟩ (.int .i64 ny.1)).setCell ⟨g9, 1, none⟩ (.int .i64 ny.2.2.1)) := ⟨_, rfl⟩
  rw [← hw7] at KB0 BS0 KS0 ⊢
  have B9 := BS0.out
  have EX := KS0.out
  replace B4 := B4.out.nxb h49 KB0.out
  replace B6 := B6.out.nxb h69 KB0.out
  replace B7 := B7.out.nxb h79 KB0.out
  replace B10 := B10.out.nxb h10 KB0.out
  clear hw7 KB0 BS0 KS0 f0 f1 v0 v1
  clear u0 u2
  have q2 := B7.cell 2 _ rfl
  go_wp2_with fail
  refine (bit_p xw ((k : Int) - 1) _ FWh (by omega) (by omega)).mono ?_
  rintro e w8 ⟨rfl, rfl⟩
  by_cases hb : bitN xw ((k : Int) - 1) = 1
  ·have E0 := Lib.hid (LX.out.1 hb)
   have db : (((bitN xw ((k : Int) - 1) : Nat) : Int) == 1) = true := by rw [hb]; rfl
   clear hb FWh LX
   have u0 := B10.cell 1 _ rfl
   have u2 := B10.cell 3 _ rfl
   have f0 := B9.free 0
   have f1 := B9.free 1
   have v0 := B9.cell 0 _ rfl
   have v1 := B9.cell 1 _ rfl
   have KB0 : Exb g9 w7 ((w7.setCell ⟨g9, 0, none⟩ (.int .i64 ny.2.1)).setCell ⟨g9, 1, none⟩ (.int .i64 ny.2.2.2)) := ((Exb.refl g9 w7).setB (p := ⟨g9, 0, none⟩) _ rfl).setB (p := ⟨g9, 1, none⟩) _ rfl
   have BS0 : Blk ((w7.setCell ⟨g9, 0, none⟩ (.int .i64 ny.2.1)).setCell ⟨g9, 1, none⟩ (.int .i64 ny.2.2.2)) g9 [.int .i64 ny.2.1, .int .i64 ny.2.2.2] 90 := (B9.set 0 (.int .i64 ny.2.1)).set 1 (.int .i64 ny.2.2.2)
   have KS0 : Ex w ((w7.setCell ⟨g9, 0, none⟩ (.int .i64 ny.2.1)).setCell ⟨g9, 1, none⟩ (.int .i64 ny.2.2.2)) := (EX.setNew (p := ⟨g9, 0, none⟩) _ zg9).setNew (p := ⟨g9, 1, none⟩) _ zg9
   replace B4 := Lib.hid B4
   replace B6 := Lib.hid B6
   replace B7 := Lib.hid B7
   replace B10 := Lib.hid B10
   replace KB0 := Lib.hid KB0
   replace BS0 := Lib.hid BS0
   replace KS0 := Lib.hid KS0
   clear B9 EX
   go_upto_region 10 with fail
   obtain ⟨w9, hw9⟩ : ∃ w9, w9 = ((w7.setCell ⟨g9, 0, none⟩ (.int .i64 ny.2.1)).setCell ⟨g9, 1, none⟩ (.int .i64 ny.2.2.2)) := ⟨_, rfl⟩
   rw [← hw9] at KB0 BS0 KS0 ⊢
   have B9 := BS0.out
   have EX := KS0.out
   replace B4 := B4.out.nxb h49 KB0.out
   replace B6 := B6.out.nxb h69 KB0.out
   replace B7 := B7.out.nxb h79 KB0.out
   replace B10 := B10.out.nxb h10 KB0.out
   clear hw9 KB0 BS0 KS0 f0 f1 v0 v1
   clear u0 u2 q2 B7 B10
   have Y0 : Hid (∀ wq, Ex w9 wq → wq.cell? ⟨g9, 0, none⟩ = some (.int .i64 ny.2.1)) := Lib.hid (fun wq kq => (B9.nx kq).cell 0 _ rfl)
   have Y1 : Hid (∀ wq, Ex w9 wq → wq.cell? ⟨g9, 1, none⟩ = some (.int .i64 ny.2.2.2)) := Lib.hid (fun wq kq => (B9.nx kq).cell 1 _ rfl)
   have QI : Hid (∀ wq, Ex w9 wq → wq.cell? ⟨g4, 0, none⟩ = some (.int .i64 p.id)) := Lib.hid (fun wq kq => (B4.nx kq).cell 0 _ rfl)
   have HS := Lib.hid (H0.out.nx EX)
   have K := Lib.hid EX
   replace B6 := Lib.hid B6
   clear B9 B4 EX
   refine wp_region_late_drew (S := Ex w9) [13] (by kernel_rfl) ((Ex.refl w9).drew) (fun hHeld => ?_)
   obtain ⟨wd, hwdx⟩ : ∃ wd : World, wd = World.drew w9 := ⟨_, rfl⟩
   rw [← hwdx] at hHeld ⊢
   have hDrew : Ex w9 wd := by rw [hwdx]; exact (Ex.refl w9).drew
   clear hwdx
   refine wpAnyL_take (i := 0) (oi := ⟨_, _, _, _, _, _⟩) (v := ?_) rfl (by kernel_rfl) (by kernel_rfl) (by kernel_rfl) (fun _ _ _ h => h) (Or.inl ⟨by rfl, ?hyr2x0q5⟩) (by kernel_rfl) (by kernel_rfl) (by assumption) ?restr2x0q5
   case hyr2x0q5 => intro wq hSw; (go_simp); (try with_reducible rfl)
   refine wpAnyL_take (i := 1) (oi := ⟨_, _, _, _, _, _⟩) (v := ?_) rfl (by kernel_rfl) (by kernel_rfl) (by kernel_rfl) (fun _ _ _ h => h) (Or.inl ⟨by rfl, ?hyr2x1q8⟩) (by kernel_rfl) (by kernel_rfl) (by assumption) ?restr2x1q8
   case hyr2x1q8 => intro wq hSw; (go_simp); (try with_reducible rfl)
   refine wpAnyL_take (i := 2) (oi := ⟨_, _, _, _, _, _⟩) (v := ?_) rfl (by kernel_rfl) (by kernel_rfl) (by kernel_rfl) (fun _ _ _ h => h) (Or.inl ⟨by rfl, ?hyr2x2q11⟩) (by kernel_rfl) (by kernel_rfl) (by assumption) ?restr2x2q11
   case hyr2x2q11 => intro wq hSw; (have cq := Y0.out wq hSw; go_simp); (try with_reducible rfl)
   refine wpAnyL_take (i := 3) (oi := ⟨_, _, _, _, _, _⟩) (v := ?_) rfl (by kernel_rfl) (by kernel_rfl) (by kernel_rfl) (fun _ _ _ h => h) (Or.inl ⟨by rfl, ?hyr2x3q14⟩) (by kernel_rfl) (by kernel_rfl) (by assumption) ?restr2x3q14
   case hyr2x3q14 => intro wq hSw; (go_simp); (try with_reducible rfl)
   refine wpAnyL_take (i := 4) (oi := ⟨_, _, _, _, _, _⟩) (v := ?_) rfl (by kernel_rfl) (by kernel_rfl) (by kernel_rfl) (fun _ _ _ h => h) (Or.inl ⟨by rfl, ?hyr2x4q17⟩) (by kernel_rfl) (by kernel_rfl) (by assumption) ?restr2x4q17
   case hyr2x4q17 => intro wq hSw; (have cq := QI.out wq hSw; go_simp); (try with_reducible rfl)
   refine wpAnyL_take (i := 6) (oi := ⟨_, _, _, _, _, _⟩) (v := ?_) rfl (by kernel_rfl) (by kernel_rfl) (by kernel_rfl) (fun _ _ _ h => h) (Or.inl ⟨by rfl, ?hyr2x6q20⟩) (by kernel_rfl) (by kernel_rfl) (by assumption) ?restr2x6q20
   case hyr2x6q20 => intro wq hSw; (go_simp); (try with_reducible rfl)
   refine wpAnyL_take (i := 7) (oi := ⟨_, _, _, _, _, _⟩) (v := ?_) rfl (by kernel_rfl) (by kernel_rfl) (by kernel_rfl) (fun _ _ _ h => h) (Or.inl ⟨by rfl, ?hyr2x7q23⟩) (by kernel_rfl) (by kernel_rfl) (by assumption) ?restr2x7q23
   case hyr2x7q23 => intro wq hSw; (go_simp); (try with_reducible rfl)
   refine wpAnyL_take (i := 8) (oi := ⟨_, _, _, _, _, _⟩) (v := ?_) rfl (by kernel_rfl) (by kernel_rfl) (by kernel_rfl) (fun _ _ _ h => h) (Or.inl ⟨by rfl, ?hyr2x8q26⟩) (by kernel_rfl) (by kernel_rfl) (by assumption) ?restr2x8q26
   case hyr2x8q26 => intro wq hSw; (have cq := Y1.out wq hSw; go_simp); (try with_reducible rfl)
   refine wpAnyL_take (i := 9) (oi := ⟨_, _, _, _, _, _⟩) (v := ?_) rfl (by kernel_rfl) (by kernel_rfl) (by kernel_rfl) (fun _ _ _ h => h) (Or.inl ⟨by rfl, ?hyr2x9q29⟩) (by kernel_rfl) (by kernel_rfl) (by assumption) ?restr2x9q29
   case hyr2x9q29 => intro wq hSw; (go_simp); (try with_reducible rfl)
   refine wpAnyL_take (i := 10) (oi := ⟨_, _, _, _, _, _⟩) (v := ?_) rfl (by kernel_rfl) (by kernel_rfl) (by kernel_rfl) (fun _ _ _ h => h) (Or.inl ⟨by rfl, ?hyr2x10q32⟩) (by kernel_rfl) (by kernel_rfl) (by assumption) ?restr2x10q32
   case hyr2x10q32 => intro wq hSw; (have cq := QI.out wq hSw; go_simp); (try with_reducible rfl)
   refine wpAnyL_ready (rs := [5]) (by kernel_rfl) (by simp) ?_
   refine AllReadyL.cons (o := ⟨_, _, _, _, _, _⟩) rfl (fun K hK => ?_) AllReadyL.nil
   go_simp
   (with_reducible refine (other_p _ _ _ N ny.2.1 p.id _ (HS.out.nx hHeld) hn).mono ?_)
   rintro e wb ⟨rfl, kk⟩
   replace hHeld := hHeld.nx kk
   clear kk
   refine hK.out _ _ (hHeld) (fun hHeld => ?_)
   clear hK K
   refine wpAnyL_ready (rs := [11]) (by kernel_rfl) (by simp) ?_
   refine AllReadyL.cons (o := ⟨_, _, _, _, _, _⟩) rfl (fun K hK => ?_) AllReadyL.nil
   go_simp
   (with_reducible refine (other_p _ _ _ N ny.2.2.2 p.id _ (HS.out.nx hHeld) hn).mono ?_)
   rintro e wc ⟨rfl, kk⟩
   replace hHeld := hHeld.nx kk
   clear kk
   have B6z := B6.out.nx hHeld
   have f0 := B6z.free 0
   have f1 := B6z.free 1
   have r0 := B6z.cell 0 _ rfl
   have r1 := B6z.cell 1 _ rfl
   refine hK.out _ _ (hHeld) (fun hHeld => ?_)
   clear hK K
   refine wpAnyL_take (i := 12) (oi := ⟨_, _, _, _, _, _⟩) (v := ?_) rfl (by kernel_rfl) (by kernel_rfl) (by kernel_rfl) (fun _ _ _ h => h) (Or.inl ⟨by rfl, ?hyr2x12q60⟩) (by kernel_rfl) (by kernel_rfl) (by assumption) ?restr2x12q60
   case hyr2x12q60 => intro wq hSw; (go_simp); (try with_reducible rfl)
   refine wpAnyL_ready (rs := [13]) (by kernel_rfl) (by simp) ?_
   refine AllReadyL.consL (o := ⟨_, _, _, _, _, _⟩) rfl (by rfl) (fun K hK => ?_) AllReadyL.nil
   go_simp
   refine hK.out _ _ ?_
   clear hK K
   refine wpAnyL_done (by kernel_rfl) ?_ _
   have KE := Lib.hid (((K.out.nx hHeld).setNew (p := ⟨g6, 0, none⟩) (.int .i64 (otherN N ny.2.1 p.id)) zg6).setNew (p := ⟨g6, 1, none⟩) (.int .i64 (otherN N ny.2.2.2 p.id)) zg6)
   clear hDrew hHeld B6z
   go_wp2_with fail
   refine bodyPost_ret (v := .agg #[.int .i64 (otherN N ny.2.1 p.id), .int .i64 (otherN N ny.2.2.2 p.id)]) (by simp [results, Tryz.results63, go_sem, *]) rfl ⟨by rw [E0.out], KE.out⟩
  ·have E0 := Lib.hid (LX.out.2 hb)
   have db : (((bitN xw ((k : Int) - 1) : Nat) : Int) == 1) = false := by simp; omega
   clear hb FWh LX
   go_upto_region 10 with fail
   clear q2 B7 B10
   have Y0 : Hid (∀ wq, Ex w7 wq → wq.cell? ⟨g9, 0, none⟩ = some (.int .i64 ny.1)) := Lib.hid (fun wq kq => (B9.nx kq).cell 0 _ rfl)
   have Y1 : Hid (∀ wq, Ex w7 wq → wq.cell? ⟨g9, 1, none⟩ = some (.int .i64 ny.2.2.1)) := Lib.hid (fun wq kq => (B9.nx kq).cell 1 _ rfl)
   have QI : Hid (∀ wq, Ex w7 wq → wq.cell? ⟨g4, 0, none⟩ = some (.int .i64 p.id)) := Lib.hid (fun wq kq => (B4.nx kq).cell 0 _ rfl)
   have HS := Lib.hid (H0.out.nx EX)
   have K := Lib.hid EX
   replace B6 := Lib.hid B6
   clear B9 B4 EX
   refine wp_region_late_drew (S := Ex w7) [13] (by kernel_rfl) ((Ex.refl w7).drew) (fun hHeld => ?_)
   obtain ⟨wd, hwdx⟩ : ∃ wd : World, wd = World.drew w7 := ⟨_, rfl⟩
   rw [← hwdx] at hHeld ⊢
   have hDrew : Ex w7 wd := by rw [hwdx]; exact (Ex.refl w7).drew
   clear hwdx
   refine wpAnyL_take (i := 0) (oi := ⟨_, _, _, _, _, _⟩) (v := ?_) rfl (by kernel_rfl) (by kernel_rfl) (by kernel_rfl) (fun _ _ _ h => h) (Or.inl ⟨by rfl, ?hyr3x0q5⟩) (by kernel_rfl) (by kernel_rfl) (by assumption) ?restr3x0q5
   case hyr3x0q5 => intro wq hSw; (go_simp); (try with_reducible rfl)
   refine wpAnyL_take (i := 1) (oi := ⟨_, _, _, _, _, _⟩) (v := ?_) rfl (by kernel_rfl) (by kernel_rfl) (by kernel_rfl) (fun _ _ _ h => h) (Or.inl ⟨by rfl, ?hyr3x1q8⟩) (by kernel_rfl) (by kernel_rfl) (by assumption) ?restr3x1q8
   case hyr3x1q8 => intro wq hSw; (go_simp); (try with_reducible rfl)
   refine wpAnyL_take (i := 2) (oi := ⟨_, _, _, _, _, _⟩) (v := ?_) rfl (by kernel_rfl) (by kernel_rfl) (by kernel_rfl) (fun _ _ _ h => h) (Or.inl ⟨by rfl, ?hyr3x2q11⟩) (by kernel_rfl) (by kernel_rfl) (by assumption) ?restr3x2q11
   case hyr3x2q11 => intro wq hSw; (have cq := Y0.out wq hSw; go_simp); (try with_reducible rfl)
   refine wpAnyL_take (i := 3) (oi := ⟨_, _, _, _, _, _⟩) (v := ?_) rfl (by kernel_rfl) (by kernel_rfl) (by kernel_rfl) (fun _ _ _ h => h) (Or.inl ⟨by rfl, ?hyr3x3q14⟩) (by kernel_rfl) (by kernel_rfl) (by assumption) ?restr3x3q14
   case hyr3x3q14 => intro wq hSw; (go_simp); (try with_reducible rfl)
   refine wpAnyL_take (i := 4) (oi := ⟨_, _, _, _, _, _⟩) (v := ?_) rfl (by kernel_rfl) (by kernel_rfl) (by kernel_rfl) (fun _ _ _ h => h) (Or.inl ⟨by rfl, ?hyr3x4q17⟩) (by kernel_rfl) (by kernel_rfl) (by assumption) ?restr3x4q17
   case hyr3x4q17 => intro wq hSw; (have cq := QI.out wq hSw; go_simp); (try with_reducible rfl)
   refine wpAnyL_take (i := 6) (oi := ⟨_, _, _, _, _, _⟩) (v := ?_) rfl (by kernel_rfl) (by kernel_rfl) (by kernel_rfl) (fun _ _ _ h => h) (Or.inl ⟨by rfl, ?hyr3x6q20⟩) (by kernel_rfl) (by kernel_rfl) (by assumption) ?restr3x6q20
   case hyr3x6q20 => intro wq hSw; (go_simp); (try with_reducible rfl)
   refine wpAnyL_take (i := 7) (oi := ⟨_, _, _, _, _, _⟩) (v := ?_) rfl (by kernel_rfl) (by kernel_rfl) (by kernel_rfl) (fun _ _ _ h => h) (Or.inl ⟨by rfl, ?hyr3x7q23⟩) (by kernel_rfl) (by kernel_rfl) (by assumption) ?restr3x7q23
   case hyr3x7q23 => intro wq hSw; (go_simp); (try with_reducible rfl)
   refine wpAnyL_take (i := 8) (oi := ⟨_, _, _, _, _, _⟩) (v := ?_) rfl (by kernel_rfl) (by kernel_rfl) (by kernel_rfl) (fun _ _ _ h => h) (Or.inl ⟨by rfl, ?hyr3x8q26⟩) (by kernel_rfl) (by kernel_rfl) (by assumption) ?restr3x8q26
   case hyr3x8q26 => intro wq hSw; (have cq := Y1.out wq hSw; go_simp); (try with_reducible rfl)
   refine wpAnyL_take (i := 9) (oi := ⟨_, _, _, _, _, _⟩) (v := ?_) rfl (by kernel_rfl) (by kernel_rfl) (by kernel_rfl) (fun _ _ _ h => h) (Or.inl ⟨by rfl, ?hyr3x9q29⟩) (by kernel_rfl) (by kernel_rfl) (by assumption) ?restr3x9q29
   case hyr3x9q29 => intro wq hSw; (go_simp); (try with_reducible rfl)
   refine wpAnyL_take (i := 10) (oi := ⟨_, _, _, _, _, _⟩) (v := ?_) rfl (by kernel_rfl) (by kernel_rfl) (by kernel_rfl) (fun _ _ _ h => h) (Or.inl ⟨by rfl, ?hyr3x10q32⟩) (by kernel_rfl) (by kernel_rfl) (by assumption) ?restr3x10q32
   case hyr3x10q32 => intro wq hSw; (have cq := QI.out wq hSw; go_simp); (try with_reducible rfl)
   refine wpAnyL_ready (rs := [5]) (by kernel_rfl) (by simp) ?_
   refine AllReadyL.cons (o := ⟨_, _, _, _, _, _⟩) rfl (fun K hK => ?_) AllReadyL.nil
   go_simp
   (with_reducible refine (other_p _ _ _ N ny.1 p.id _ (HS.out.nx hHeld) hn).mono ?_)
   rintro e wb ⟨rfl, kk⟩
   replace hHeld := hHeld.nx kk
   clear kk
   refine hK.out _ _ (hHeld) (fun hHeld => ?_)
   clear hK K
   refine wpAnyL_ready (rs := [11]) (by kernel_rfl) (by simp) ?_
   refine AllReadyL.cons (o := ⟨_, _, _, _, _, _⟩) rfl (fun K hK => ?_) AllReadyL.nil
   go_simp
   (with_reducible refine (other_p _ _ _ N ny.2.2.1 p.id _ (HS.out.nx hHeld) hn).mono ?_)
   rintro e wc ⟨rfl, kk⟩
   replace hHeld := hHeld.nx kk
   clear kk
   have B6z := B6.out.nx hHeld
   have f0 := B6z.free 0
   have f1 := B6z.free 1
   have r0 := B6z.cell 0 _ rfl
   have r1 := B6z.cell 1 _ rfl
   refine hK.out _ _ (hHeld) (fun hHeld => ?_)
   clear hK K
   refine wpAnyL_take (i := 12) (oi := ⟨_, _, _, _, _, _⟩) (v := ?_) rfl (by kernel_rfl) (by kernel_rfl) (by kernel_rfl) (fun _ _ _ h => h) (Or.inl ⟨by rfl, ?hyr3x12q60⟩) (by kernel_rfl) (by kernel_rfl) (by assumption) ?restr3x12q60
   case hyr3x12q60 => intro wq hSw; (go_simp); (try with_reducible rfl)
   refine wpAnyL_ready (rs := [13]) (by kernel_rfl) (by simp) ?_
   refine AllReadyL.consL (o := ⟨_, _, _, _, _, _⟩) rfl (by rfl) (fun K hK => ?_) AllReadyL.nil
   go_simp
   refine hK.out _ _ ?_
   clear hK K
   refine wpAnyL_done (by kernel_rfl) ?_ _
   have KE := Lib.hid (((K.out.nx hHeld).setNew (p := ⟨g6, 0, none⟩) (.int .i64 (otherN N ny.1 p.id)) zg6).setNew (p := ⟨g6, 1, none⟩) (.int .i64 (otherN N ny.2.2.1 p.id)) zg6)
   clear hDrew hHeld B6z
   go_wp2_with fail
   refine bodyPost_ret (v := .agg #[.int .i64 (otherN N ny.1 p.id), .int .i64 (otherN N ny.2.2.1 p.id)]) (by simp [results, Tryz.results63, go_sem, *]) rfl ⟨by rw [E0.out], KE.out⟩
end Go.Proofs.YtofmcalfbpjoeaaGreatDoor
