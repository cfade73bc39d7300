/- Shared texts. -/
import Derived.Test.YtlgdjigocopglaaGreatDoorRqAll14
import Derived.Test.YtlgdjigocopglaaGreatDoorRqBCDEF2
set_option linter.unusedSimpArgs false
set_option linter.unusedVariables false

namespace Go.Proofs.YtlgdjigocopglaaGreatDoor
open Go.RowKit
section
variable {N : List Nd} {P : List Pr}
theorem bes_at {id : Int} {A B : List Int} (hA : id ∉ A) : besN id (A ++ id :: B) = ((A.getLast?.getD 0), B.head?.getD 0) := by
 have hf : (A ++ id :: B).findIdx? (· == id) = some A.length := by
  rw [List.findIdx?_eq_some_iff_getElem]
  refine ⟨by simp, by simp, fun j hj => ?_⟩
  rw [List.getElem_append_left hj]
  have : A[j] ∈ A := List.getElem_mem hj
  simp only [beq_iff_eq]
  intro h
  rw [h] at this
  exact hA this
 unfold besN
 rw [hf]
 simp only
 congr 1
 ·by_cases h : A.length = 0
  ·rw [if_pos h, List.length_eq_zero_iff.1 h]; rfl
  ·rw [if_neg h, List.getElem?_append_left (by omega), List.getLast?_eq_getElem?]
 ·rw [List.getElem?_append_right (by omega), show A.length + 1 - A.length = 1 by omega, List.getElem?_cons_succ, List.head?_eq_getElem?]
end
section
variable {N : List Nd} {P : List Pr}
theorem peer_map {S : List Nd} (hd : S.Pairwise fun x y => x.id ≠ y.id) {f : Nd → Pr} (hf : ∀ x, (f x).id = x.id) {a : Nd} (ha : a ∈ S) : peerN (S.map f) a.id = f a := by
 unfold peerN
 have : (S.map f).find? (fun p => p.id == a.id) = some (f a) := by
  rw [List.find?_map]
  have e : ((fun p : Pr => p.id == a.id) ∘ f) = fun x : Nd => x.id == a.id := by funext x; simp [hf]
  rw [e]
  have hfd : S.find? (fun x => x.id == a.id) = some a := by
   obtain ⟨A, B, rfl⟩ := List.append_of_mem ha
   rw [List.find?_append]
   have hn : A.find? (fun x => x.id == a.id) = none := by
    rw [List.find?_eq_none]
    intro x hx
    have := (List.pairwise_append.1 hd).2.2 x hx a (by simp)
    simpa using this
   rw [hn]
   simp
  rw [hfd]; rfl
 rw [this]; rfl
theorem normal_peer (h0 : checkN N = 0) {a : Nd} (ha : a ∈ N) : peerN (normalN N P) a.id = peerN P a.id := by
 unfold normalN
 rw [if_pos h0]
 exact peer_map (sort_ids h0) (fun x => peer_id _ _) ((sortN_mem N a).2 ha)
theorem round_map (h0 : checkN N = 0) : roundN N P = (sortN N).map fun x => rndP N ((normalN N P).flatMap (introsN N)) (peerN P x.id) := by
 rw [roundN_eq]
 unfold normalN
 rw [if_pos h0, List.map_map]
 rfl
end
section
variable {N : List Nd}
theorem pair_congr {own nb : Int} {lev : Nat} {z1 o1 z2 o2 : Int} (h : (findN N nb).2 = true → z1 = z2 ∧ o1 = o2) : pairB N own nb lev z1 o1 = pairB N own nb lev z2 o2 := by
 unfold pairB
 split
 ·rename_i hf
  rw [(h hf).1, (h hf).2]
 ·rfl
theorem step_congr {st st' : Int → Pr} (h : ∀ x ∈ N, st x.id = st' x.id) (p : Pr) (i : Nat) : stepB N st p i = stepB N st' p i := by
 have hf : ∀ nb, (findN N nb).2 = true → st nb = st' nb := fun nb hb => by
  obtain ⟨m1, m2⟩ := findN_mem hb
  have := h _ m1
  rwa [m2] at this
 have e1 := pair_congr (N := N) (own := p.id) (nb := (linkB N p i).1) (lev := i) (z1 := (nearAt (st (linkB N p i).1) i).1) (o1 := (nearAt (st (linkB N p i).1) i).2.1) (z2 := (nearAt (st' (linkB N p i).1) i).1) (o2 := (nearAt (st' (linkB N p i).1) i).2.1)
  (fun hb => by rw [hf _ hb]; exact ⟨rfl, rfl⟩)
 have e2 := pair_congr (N := N) (own := p.id) (nb := (linkB N p i).2) (lev := i) (z1 := (nearAt (st (linkB N p i).2) i).2.2.1) (o1 := (nearAt (st (linkB N p i).2) i).2.2.2) (z2 := (nearAt (st' (linkB N p i).2) i).2.2.1) (o2 := (nearAt (st' (linkB N p i).2) i).2.2.2)
  (fun hb => by rw [hf _ hb]; exact ⟨rfl, rfl⟩)
 unfold stepB
 rw [e1, e2]
theorem next_congr {st st' : Int → Pr} (h : ∀ x ∈ N, st x.id = st' x.id) (p : Pr) (k : Nat) : nextB N st p k = nextB N st' p k := by
 unfold nextB
 exact List.map_congr_left fun i _ => step_congr h p i
theorem broundN_map {P : List Pr} (h0 : checkN N = 0) {h : Nat} (hh : h ≤ 16) : bRoundN N P (h : Int) = (sortN N).map fun x => { peerN P x.id with near := nextB N (peerN P) (peerN P x.id) h } := by
 unfold bRoundN
 rw [if_pos (by unfold lvlN; simp; omega)]
 have hc : ∀ p, nextB N (peerN (normalN N P)) p h = nextB N (peerN P) p h := fun p => next_congr (fun x hx => normal_peer h0 hx) p h
 simp only [show ((h : Int)).toNat = h by omega, hc]
 unfold normalN
 rw [if_pos h0, List.map_map]
 rfl
theorem rround_map {P : List Pr} (h0 : checkN N = 0) {h : Nat} (hh : h ≤ 16) : rRoundN N P (h : Int) = (sortN N).map fun x => { rndP N ((normalN N P).flatMap (introsN N)) (peerN P x.id) with near := nextB N (peerN P) (peerN P x.id) h } := by
 unfold rRoundN
 rw [if_pos (by unfold lvlN; simp; omega), round_map h0, broundN_map h0 hh, List.zip_map', List.map_map]
 rfl
theorem rround_peer {P : List Pr} (h0 : checkN N = 0) {h : Nat} (hh : h ≤ 16) {x : Nd} (hx : x ∈ N) : peerN (rRoundN N P (h : Int)) x.id = { rndP N ((normalN N P).flatMap (introsN N)) (peerN P x.id) with near := nextB N (peerN P) (peerN P x.id) h } := by
 rw [rround_map h0 hh]
 exact peer_map (sort_ids h0) (f := fun x => { rndP N ((normalN N P).flatMap (introsN N)) (peerN P x.id) with near := nextB N (peerN P) (peerN P x.id) h }) (fun x => peer_id P x.id) ((sortN_mem N x).2 hx)
end
theorem check_one {x : Nd} (h1 : 1 ≤ x.id) (h2 : x.id ≤ 2147483647) (h3 : x.key.size ≤ 64) (h4 : x.word < 65536) : checkN [x] = 0 := by
 have hb : badN x = false := by
  unfold badN validN
  simp
  omega
 have hd : dupN [x] = false := by
  cases h : dupN [x] with
  | false => rfl
  | true =>
   obtain ⟨i, k, _, _, hki, hi, _⟩ := (dupN_iff _).1 h
   have := (List.getElem?_eq_some_iff.1 hi).1
   simp at this
   omega
 unfold checkN
 simp [hb, hd]
def SomeOf (n b : Nat) (w w' : World) (v : Value) (L : List Nd) : Prop := RosterOf n b w w' v L ∧ 1 ≤ L.length
set_option maxRecDepth 100000 in
set_option maxHeartbeats 1000000 in
theorem some_n {b : Nat} (n : Nat) (w : World) (h : TK w b) (hL : LetG w) (hgb : ¬ 0 = b) (hn0 : 1 ≤ n) (hn : n ≤ 60) :
  Calls Tryz.prog 22 #[.pointer (some ⟨b, 0, none⟩), .int .i64 n] w fun e w' => ∃ v L, e = .returned v ∧ SomeOf n b w w' v L := by
 have hbw := h.lt
 go_enter Tryz.func22, Tryz.ntmps22
 go_wp2_with fail
 refine (roster_t n _ h hL hgb hn0 hn).mono ?_
 rintro e w1 ⟨v1, L, rfl, R⟩
 obtain ⟨A1, C1, rfl, _, _, _, _⟩ := R.own.slf (fun _ => rfl)
 have T := R.tape
 have L1 := hL.nxb hgb R.k
 clear h hL
 by_cases h0 : L.length = 0
 ·have d0 : ((L.length : Int) == 0) = true := by rw [h0]; rfl
  have kk := R.k
  clear R
  go_wp2_with fail
  refine (next_t (3 * (n : Int)) _ T (by omega) (by omega)).mono ?_
  clear T
  rintro e w2 ⟨d, rfl, r0, r1, T, k2⟩
  replace L1 := L1.nxb hgb k2
  replace kk := kk.nxb k2
  clear k2
  go_wp2_with fail
  refine (key_t _ T L1 hgb).mono ?_
  clear T
  rintro e w3 ⟨s, rfl, hs, T, k2⟩
  replace kk := kk.nxb k2
  clear k2 L1
  go_wp2_with fail
  refine (word_t _ T).mono ?_
  clear T
  rintro e w4 ⟨m, rfl, hm, T, k2⟩
  replace kk := kk.nxb k2
  clear k2
  have kz := kk.size
  go_wp2_with fail
  go_ret
  refine ⟨_, [⟨1 + d, s, m⟩], rfl, ⟨OwnL.lit [⟨1 + d, s, m⟩] (fun _ => rfl) kz (by unfold maxLen; simp) rfl, by simp; omega, check_one (by simp; omega) (by simp; omega) hs hm, by simpa using hm, T.nx (Ex.new _ _), kk.nxb ((Ex.new _ _).b b)⟩, by simp⟩
 ·have d0 : ((L.length : Int) == 0) = false := by rw [beq_eq_false_iff_ne]; omega
  have R := lH R
  go_wp2_with fail
  go_ret
  exact ⟨_, L, rfl, R.out, by omega⟩
section
variable {N : List Nd} {P Q : List Pr}
theorem norm_congr (h : ∀ x ∈ N, peerN P x.id = peerN Q x.id) : normalN N P = normalN N Q := by
 unfold normalN
 split
 ·exact List.map_congr_left fun x hx => h x ((sortN_mem N x).1 hx)
 ·rfl
theorem norm_idem (N : List Nd) (P : List Pr) : normalN N (normalN N P) = normalN N P := by
 by_cases h0 : checkN N = 0
 ·exact norm_congr fun x hx => normal_peer h0 hx
 ·unfold normalN
  rw [if_neg h0, if_neg h0]
theorem run_len (h0 : checkN N = 0) {h : Nat} (hh : h ≤ 16) (r : Int) : (repN N P h r).length = N.length := by
 unfold repN
 rw [if_pos (lvl_of (by omega) (by omega))]
 cases (max (min r 4096) 0).toNat with
 | zero => show (normalN N P).length = _; unfold normalN; rw [if_pos h0, List.length_map, sortN_length]
 | succ t => show (rRoundN N _ h).length = _; rw [rround_map h0 hh, List.length_map, sortN_length]
end
theorem few_smallR {P : List Pr} (h : FewQ 100 200 P) : SmallP P := fun p hp => by have := h p hp; omega
theorem normal_sm2' {N : List Nd} {P : List Pr} {m M : Nat} (h : FewQ m M P) : FewQ m M (normalN N P) := by
 intro q hq
 unfold normalN at hq
 split at hq
 ·obtain ⟨x, _, rfl⟩ := List.mem_map.1 hq
  unfold peerN
  cases hf : P.find? fun p => p.id == x.id with
  | none => exact ⟨Nat.zero_le _, Nat.zero_le _⟩
  | some q => exact h q (List.mem_of_find?_eq_some hf)
 ·cases hq
theorem rr_fewR {N : List Nd} (hN : N.length ≤ 100) (P : List Pr) (k : Int) : FewQ 100 200 (rRoundN N P k) := fun p hp => by have := rr_few N P k p hp; omega
theorem rruns_few {N : List Nd} {P : List Pr} (hN : N.length ≤ 100) (hP : FewQ 100 200 P) (k : Int) : ∀ t, FewQ 100 200 (rRunsN N P k t)
 | 0 => hP
 | _ + 1 => rr_fewR hN _ k
theorem run_few {N : List Nd} {P : List Pr} (hN : N.length ≤ 100) (hP : FewQ 100 200 P) (h r : Int) : FewQ 100 200 (repN N P h r) := by
 unfold repN
 split
 ·refine rruns_few hN (fun p hp => ?_) _ _
  exact normal_sm2' hP p hp
 ·intro p hp; cases hp
end Go.Proofs.YtlgdjigocopglaaGreatDoor
