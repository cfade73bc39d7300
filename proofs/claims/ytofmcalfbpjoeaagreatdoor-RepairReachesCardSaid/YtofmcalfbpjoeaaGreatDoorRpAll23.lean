/- Texts for RepairReachesProof, RepairCrashesProof, RepairJoinsProof, RepairCleansProof, RepairRejoinsProof. -/
import Derived.Test.YtofmcalfbpjoeaaGreatDoorRpAll1
import Derived.Test.YtofmcalfbpjoeaaGreatDoorRpAll3
import Derived.Test.YtofmcalfbpjoeaaGreatDoorRpAll6
import Derived.Test.YtofmcalfbpjoeaaGreatDoorRpAll8
import Derived.Test.YtofmcalfbpjoeaaGreatDoorRpAll11
import Derived.Test.YtofmcalfbpjoeaaGreatDoorRpAll12
import Derived.Test.YtofmcalfbpjoeaaGreatDoorRpAll14
import Derived.Test.YtofmcalfbpjoeaaGreatDoorRpAll15
import Derived.Test.YtofmcalfbpjoeaaGreatDoorRpAll16
import Derived.Test.YtofmcalfbpjoeaaGreatDoorRpAll18
import Derived.Test.YtofmcalfbpjoeaaGreatDoorRpAll20

namespace Go.Proofs.YtofmcalfbpjoeaaGreatDoor
open Go.RowKit
abbrev Hop := Int × Int × Int
def atL (L : List Lkd) (id lev : Int) : Int × Int := match L.find? (fun c => c.1 == id) with | some c => if lev < 0 then (0, 0) else c.2[lev.toNat]?.getD (0, 0) | none => (0, 0)
def hopN (N : List Nd) (L : List Lkd) (key : List UInt8) (right : Bool) (x : Nd) (lev : Nat) : Option Nd :=
 if right then (if (findN N (atL L x.id lev).2).2 && (Op.bytesLess x.key.toList (findN N (atL L x.id lev).2).1.key.toList && !Op.bytesLess key (findN N (atL L x.id lev).2).1.key.toList) then some (findN N (atL L x.id lev).2).1 else none)
 else (if (findN N (atL L x.id lev).1).2 && (Op.bytesLess (findN N (atL L x.id lev).1).1.key.toList x.key.toList && Op.bytesLess key (findN N (atL L x.id lev).1).1.key.toList) then some (findN N (atL L x.id lev).1).1 else none)
def rtF (N : List Nd) (L : List Lkd) (key : List UInt8) (right : Bool) : Nat → Nd → Nat → List Hop → Nd × List Hop
 | 0, x, _, out => (x, out)
 | _ + 1, x, 0, out => (x, out)
 | f + 1, x, lev + 1, out =>
  match hopN N L key right x lev with
  | some y => rtF N L key right f y (lev + 1) (out ++ [(x.id, y.id, (lev : Int))])
  | none => rtF N L key right f x lev out
def bey (N : List Nd) (right : Bool) (x : Nd) : Nat := N.countP fun z => if right then Op.bytesLess x.key.toList z.key.toList else Op.bytesLess z.key.toList x.key.toList
def measR (N : List Nd) (right : Bool) (x : Nd) (lev : Nat) : Nat := lev * (N.length + 1) + bey N right x
variable {N : List Nd} {L : List Lkd} {key : List UInt8} {right : Bool}
theorem hop_mem {x y : Nd} {lev : Nat} (h : hopN N L key right x lev = some y) : y ∈ N ∧
  (if right then Op.bytesLess x.key.toList y.key.toList = true ∧ Op.bytesLess key y.key.toList = false else Op.bytesLess y.key.toList x.key.toList = true ∧ Op.bytesLess key y.key.toList = true) := by
 unfold hopN at h
 cases right with
 | true =>
  rw [if_pos rfl] at h ⊢
  split at h
  ·rename_i hc
   cases h
   simp only [Bool.and_eq_true, Bool.not_eq_true'] at hc
   exact ⟨(findN_mem hc.1).1, hc.2.1, hc.2.2⟩
  ·cases h
 | false =>
  rw [if_neg (by simp)] at h ⊢
  split at h
  ·rename_i hc
   cases h
   simp only [Bool.and_eq_true] at hc
   exact ⟨(findN_mem hc.1).1, hc.2.1, hc.2.2⟩
  ·cases h
theorem count_lt {α : Type} {p q : α → Bool} : ∀ {l : List α} {y : α}, y ∈ l → (∀ z, p z = true → q z = true) → q y = true → p y = false → l.countP p < l.countP q
 | [], _, hy, _, _, _ => by cases hy
 | a :: l, y, hy, h, h1, h2 => by
  rw [List.countP_cons, List.countP_cons]
  have hle : l.countP p ≤ l.countP q := List.countP_mono_left (fun z _ => h z)
  rcases List.mem_cons.1 hy with rfl | hy
  ·rw [h1, h2]; simp; omega
  ·have := count_lt hy h h1 h2
   have h3 := h a
   cases hp : p a with
   | true => rw [h3 hp]; simp; omega
   | false =>
    generalize (if q a = true then 1 else 0) = z
    simp
    omega
theorem bey_lt {x y : Nd} {lev : Nat} (h : hopN N L key right x lev = some y) : bey N right y < bey N right x := by
 obtain ⟨hm, hc⟩ := hop_mem h
 unfold bey
 cases right with
 | true =>
  rw [if_pos rfl] at hc
  refine count_lt hm (fun z hz => ?_) ?_ ?_
  ·rw [if_pos rfl] at hz ⊢; exact bl_trans hc.1 hz
  ·rw [if_pos rfl]; exact hc.1
  ·rw [if_pos rfl]; exact bytesLess_irrefl _
 | false =>
  rw [if_neg (by simp)] at hc
  refine count_lt hm (fun z hz => ?_) ?_ ?_
  ·rw [if_neg (by simp)] at hz ⊢; exact bl_trans hz hc.1
  ·rw [if_neg (by simp)]; exact hc.1
  ·rw [if_neg (by simp)]; exact bytesLess_irrefl _
theorem bey_le (x : Nd) : bey N right x ≤ N.length := List.countP_le_length
theorem meas_hop {x y : Nd} {lev : Nat} (h : hopN N L key right x lev = some y) : measR N right y (lev + 1) < measR N right x (lev + 1) := by
 have := bey_lt h
 unfold measR
 omega
def RtSt (N : List Nd) (L : List Lkd) (key : List UInt8) (right : Bool) (R : Nd × List Hop) (x : Nd) (lev : Nat) (out : List Hop) : Prop := ∃ f, measR N right x lev ≤ f ∧ rtF N L key right f x lev out = R
theorem RtSt.start {x : Nd} {lev : Nat} (hl : lev ≤ 17) : RtSt N L key right (rtF N L key right (18 * (N.length + 1)) x lev []) x lev [] := by
 refine ⟨_, ?_, rfl⟩
 unfold measR
 have := bey_le (N := N) (right := right) x
 have : lev * (N.length + 1) ≤ 17 * (N.length + 1) := Nat.mul_le_mul_right _ hl
 omega
theorem RtSt.hop {R : Nd × List Hop} {x y : Nd} {lev : Nat} {out : List Hop} (h : RtSt N L key right R x (lev + 1) out) (hh : hopN N L key right x lev = some y) : RtSt N L key right R y (lev + 1) (out ++ [(x.id, y.id, (lev : Int))]) := by
 obtain ⟨f, h1, h2⟩ := h
 have hm := meas_hop hh
 obtain ⟨f, rfl⟩ : ∃ g, f = g + 1 := ⟨f - 1, by omega⟩
 refine ⟨f, by omega, ?_⟩
 rw [← h2]
 show _ = (match hopN N L key right x lev with | some y => rtF N L key right f y (lev + 1) (out ++ [(x.id, y.id, (lev : Int))]) | none => rtF N L key right f x lev out)
 rw [hh]
def IjRel (l : List Int) (v : Int) (n : Nat) (w : World) (i : Value) (wr : World) : Prop :=
 ∃ k : Nat, k ≤ n ∧ i = .int .i64 k ∧ Ex w wr ∧ ∀ j z, j < k → l[j]? = some z → z ≠ v
set_option maxHeartbeats 1000000 in
theorem index_i (a : Option Addr) (n c : Nat) (l : List Int) (v : Int) (w : World) (h : Sl 1 encI w a n l) (hn : n ≤ 4000000000000000000) :
  Calls Tryz.prog 154 #[.slice a n c, .int .i64 v] w fun e w' => ∃ r : Int, e = .returned (.int .i64 r) ∧ decide (0 ≤ r) = l.contains v ∧ Ex w w' := by
 have HL := Lib.hid h.len
 have hs := Lib.hid h
 clear h
 go_enter Tryz.func154, Tryz.ntmps154
 go_wp2
 go_loopw [8] (fun i wr => IjRel l v n w i wr) (fun i _ => n - (intOf i).toNat)
 case atStart => exact ⟨0, by omega, rfl, Ex.refl _, by intro j z h; omega⟩
 case round =>
  obtain ⟨k, hk, rfl, kw, hno⟩ := hrel
  have HNO := Lib.hid hno
  clear hno
  obtain ⟨wo, rfl⟩ : ∃ wo : World, wo = wr := ⟨_, rfl⟩
  by_cases hlt : k < n
  ·obtain ⟨x1, o1, y, rfl, hx1, hy, hc1⟩ := (hs.out.nx kw).at hlt
   have e0 : wo.cell? ⟨x1, o1 + k, none⟩ = some (.int .i64 y) := by simpa using hc1 0 _ rfl
   have HY := Lib.hid hy
   have KW := Lib.hid kw
   clear hc1 hy kw
   by_cases hv : y = v
   ·have HC : Hid (decide ((0 : Int) ≤ (k : Int)) = l.contains v) := Lib.hid (by
     have h1 : l.contains v = true := by rw [List.contains_iff_mem, ← hv]; exact List.mem_of_getElem? HY.out
     rw [h1]; simp)
    have hb : (v == y) = true := by rw [hv]; simp
    clear hv
    go_wp2_with fail
    go_ret
    exact ⟨k, rfl, HC.out, KW.out⟩
   ·have HV := Lib.hid hv
    have hb : (v == y) = false := by rw [beq_eq_false_iff_ne]; exact fun h => hv h.symm
    clear hv
    go_wp2_with fail
    refine ⟨⟨k + 1, by omega, by go_num, KW.out, fun j z hj hz => ?_⟩, by simp [intOf]; omega⟩
    rcases Nat.lt_or_ge j k with h | h
    ·exact HNO.out j z h hz
    ·obtain rfl : j = k := by omega
     rw [Option.some.inj (hz.symm.trans HY.out)]
     exact HV.out
  ·obtain rfl : k = n := by omega
   have HC : Hid (decide ((0 : Int) ≤ -1) = l.contains v) := Lib.hid (by
    have h1 : l.contains v = false := by
     cases hc : l.contains v with
     | false => rfl
     | true =>
      rw [List.contains_iff_mem] at hc
      obtain ⟨j, hj⟩ := List.mem_iff_getElem?.1 hc
      exact absurd rfl (HNO.out j v (by rw [← HL.out]; exact (List.getElem?_eq_some_iff.1 hj).1) hj)
    rw [h1]; rfl)
   have KW := Lib.hid kw
   clear kw hk hlt
   go_wp2_with fail
   go_ret
   exact ⟨-1, rfl, HC.out, KW.out⟩
theorem contains_i (a : Option Addr) (n c : Nat) (l : List Int) (v : Int) (w : World) (h : Sl 1 encI w a n l) (hn : n ≤ 4000000000000000000) :
  Calls Tryz.prog 115 #[.slice a n c, .int .i64 v] w fun e w' => e = .returned (.bool (l.contains v)) ∧ Ex w w' := by
 go_enter Tryz.func115, Tryz.ntmps115
 go_wp2_with fail
 (with_reducible refine (index_i _ _ _ _ _ _ h hn).mono ?_)
 rintro e w1 ⟨r, rfl, hr, kk⟩
 have HR := Lib.hid hr
 clear h hr
 go_wp2_with fail
 go_ret
 exact ⟨by rw [← HR.out]; rfl, kk⟩
theorem wp_append_rdW {P : Program} {α : Type} {enc : α → List Value} {o : Oper} {a : Act} {K : Act → World → Prop} {Q : Exit → Act → World → Prop} (w0 : World) (s x : Operand) (t : TypeId)
  (ho : o.op = .call { callee := .builtin .append, args := #[s, x], argTypes := #[t, t] })
  (base : Nat) (e : TypeId) (z : Value) (sz bytes : Nat) (ht : P.underlying t = some (.slice e)) (hi : (P.info? e).map (fun i => (i.zero, i.size, i.bytes)) = some (some z, sz, bytes))
  (hzs : z.cells.size = sz) (hsz : 0 < sz) (hby : bytes ≤ 65536)
  (v : Value) (l : List α) (hown : OwnL sz enc e base w0 v l) (hs : a.eval s = v) (S : Nat → Prop) (A : Option Addr) (n c : Nat) (news : List α) (hrd : Rd sz enc S w0 A n news) (hA : A = none → c = 0) (hlen : ∀ y, (enc y).length = sz) (h1 : ∀ y, ∀ u ∈ enc y, u.oneCell' = true)
  (hx : a.eval x = .slice A n c) (hb1 : 0 < bytes) (hmul : (l.length + n) * bytes ≤ 140737488355328) (hbase : base ≤ w0.heap.size)
  (h : ∀ v' w', OwnL sz enc e base w' v' (l ++ news) → Chg (fun k => k < w0.heap.size ∧ ¬ v.ownBlock = some k) w0 w' → Chg (· < base) w0 w' → K (a.put o.dst v') w') :
  o.wp P a w0 K Q := by
 obtain ⟨i, hi, hz0, hz1, hz2⟩ := info_parts hi
 have hlen2 : l.length + n ≤ (l.length + n) * bytes := Nat.le_mul_of_pos_right _ hb1
 have hnl := hrd.1
 cases A with
 | none =>
  have hc := hA rfl
  have hn0 : n = 0 := by
   rcases hrd.2 with h0 | ⟨x, o, e1, _⟩
   ·exact h0
   ·cases e1
  subst hn0 hc
  have hnews : news = [] := List.eq_nil_of_length_eq_zero hnl
  subst hnews
  refine wp_append_none s x t ho base e i sz ht hi v l.length (l.flatMap enc) hs hown hx ?_
  exact h v w0 (by simpa using hown) (Chg.refl _ _) (Chg.refl _ _)
 | some ad =>
  refine wp_append_own _ s x t ho base e i z sz bytes ht hi hz0 hz1 hz2 hzs hsz v l.length (l.flatMap enc) hs hown ad n c (news.flatMap enc) hx ?_ ?_ ?_ (by unfold maxLen; omega) (by omega) hbase ?_
  ·have : ∀ l : List α, (l.flatMap enc).length = l.length * sz := by
    intro l
    induction l with
    | nil => simp
    | cons y r ih => rw [List.flatMap_cons, List.length_append, hlen, ih, List.length_cons, Nat.succ_mul]; omega
   rw [this, hnl]
  ·intro j u hu
   have hj := (List.getElem?_eq_some_iff.1 hu).1
   rcases hrd.2 with h0 | ⟨x, o, e1, _, e3⟩
   ·subst h0
    have : news = [] := List.eq_nil_of_length_eq_zero hnl
    subst this
    simp at hj
   ·cases e1
    rw [Addr.add_lit]
    have hdiv : ∃ y, news[j / sz]? = some y ∧ (enc y)[j % sz]? = some u := by
     clear e3 hmul hlen2 hown h hx hrd
     induction news generalizing j n with
     | nil => simp at hu
     | cons y r ih =>
      rw [List.flatMap_cons] at hu
      by_cases hlt : j < sz
      ·rw [List.getElem?_append_left (by rw [hlen]; exact hlt)] at hu
       exact ⟨y, by rw [Nat.div_eq_of_lt hlt]; rfl, by rw [Nat.mod_eq_of_lt hlt]; exact hu⟩
      ·rw [List.getElem?_append_right (by rw [hlen]; omega), hlen] at hu
       obtain ⟨y', h1', h2'⟩ := ih (n := n - 1) (j := j - sz) (by simp at hnl; omega) hu (List.getElem?_eq_some_iff.1 hu).1
       have e1 : j / sz = (j - sz) / sz + 1 := by
        rw [Nat.div_eq_sub_div hsz (by omega)]
       have e2 : j % sz = (j - sz) % sz := by
        rw [Nat.mod_eq_sub_mod (by omega)]
       exact ⟨y', by rw [e1]; simpa using h1', by rw [e2]; exact h2'⟩
    obtain ⟨y, hy1, hy2⟩ := hdiv
    have := e3 _ y hy1 _ u hy2
    rw [Nat.add_assoc, Nat.mul_comm, Nat.div_add_mod] at this
    exact this
  ·intro u hu
   obtain ⟨y, _, hy⟩ := List.mem_flatMap.1 hu
   exact h1 y u hy
  ·intro v' w' hown' hgrow hnil
   have hch : Chg (fun k => k < w0.heap.size ∧ ¬ v.ownBlock = some k) w0 w' := ⟨hgrow.os, hgrow.tape, hgrow.output, hgrow.size, fun k hk => hgrow.block k hk.1 (fun h => hk.2 h.symm)⟩
   refine h v' w' ?_ hch (hch.mono fun k hk => ⟨by omega, fun hv => ?_⟩)
   ·unfold OwnL
    simpa [List.flatMap_append, hnl] using hown'
   ·have := hown.lt k hv
    omega
section
variable {P : Program} {ops : Array Oper} {Q : Exit → Act → World → Prop} {md : Region.Mode} {S : World → Prop} {late : List Nat}
def wpAnyL (P : Program) (md : Region.Mode) (ops : Array Oper) (Q : Exit → Act → World → Prop) (S : World → Prop) (late : List Nat) : Nat → Array Bool → Act → World → Prop
 | 0, listed, a, w => Region.ready md ops listed = [] ∧ Q .normal a w
 | fuel + 1, listed, a, w =>
  (Region.ready md ops listed = [] → Q .normal a w) ∧
  ∀ i ∈ Region.ready md ops listed, wpOp P ops Q i (fun a' w' => (late.contains i = false → S w → S w') ∧ wpAnyL P md ops Q S late fuel (listed.setIfInBounds i true) a' w') a w
theorem wpAny_of_late : ∀ (fuel : Nat) (listed : Array Bool) (a : Act) (w : World), wpAnyL P md ops Q S late fuel listed a w → wpAny P md ops Q fuel listed a w
 | 0, _, _, _, h => h
 | fuel + 1, _, _, _, h => ⟨h.1, fun i hi => wpOp_mono (fun a' w' h' => wpAny_of_late fuel _ a' w' h'.2) (h.2 i hi)⟩
def reachO (md : Region.Mode) (ops : Array Oper) (i : Nat) : Nat → Nat → Bool
 | 0, _ => false
 | f + 1, j => match ops[j]? with
  | some o => o.after.any fun e => Region.binds md e && (e.on == i || reachO md ops i f e.on)
  | none => false
def lateOk (md : Region.Mode) (ops : Array Oper) (late : List Nat) (i : Nat) : Bool := late.all fun j => reachO md ops i ops.size j
def Clo (md : Region.Mode) (ops : Array Oper) (listed : Array Bool) : Prop :=
 ∀ j o, ops[j]? = some o → listed.getD j false = true → ∀ e ∈ o.after, Region.binds md e = true → listed.getD e.on false = true
def closedO (md : Region.Mode) (ops : Array Oper) (listed : Array Bool) : Bool :=
 (List.range ops.size).all fun j => match ops[j]? with
  | some o => !(listed.getD j false) || o.after.all fun e => !(Region.binds md e) || listed.getD e.on false
  | none => true
theorem closedO_spec {listed : Array Bool} (h : closedO md ops listed = true) : Clo md ops listed := by
 intro j o hj hl e he hb
 have hjs : j < ops.size := (Array.getElem?_eq_some_iff.1 hj).1
 have h1 := List.all_eq_true.1 h j (List.mem_range.2 hjs)
 simp only [hj, hl, Bool.not_true, Bool.false_or] at h1
 rw [Array.all_eq_true'] at h1
 have h2 := h1 e he
 simpa [hb] using h2
theorem reach_listed {i : Nat} {listed : Array Bool} (hc : Clo md ops listed) : ∀ (f j : Nat), (∀ o, ops[j]? = some o → ∀ e ∈ o.after, Region.binds md e = true → listed.getD e.on false = true) → reachO md ops i f j = true → listed.getD i false = true
 | 0, _, _, h => by cases h
 | f + 1, j, hp, h => by
  unfold reachO at h
  cases ho : ops[j]? with
  | none => simp [ho] at h
  | some o =>
   simp only [ho] at h
   rw [Array.any_eq_true'] at h
   obtain ⟨e, he, h2⟩ := h
   rw [Bool.and_eq_true, Bool.or_eq_true, beq_iff_eq] at h2
   have hl := hp o ho e he h2.1
   rcases h2.2 with h3 | h3
   ·rw [← h3]; exact hl
   ·exact reach_listed hc f e.on (fun o' ho' e' he' hb' => hc e.on o' ho' hl e' he' hb') h3
theorem getD_mono {listed : Array Bool} {j k : Nat} (h : listed.getD k false = true) : (listed.setIfInBounds j true).getD k false = true := by
 rw [Array.getD_eq_getD_getElem?] at h ⊢
 rw [Array.getElem?_setIfInBounds]
 split
 ·split
  ·rfl
  ·rename_i hk hs
   subst hk
   rw [Array.getElem?_eq_none (by omega)] at h
   exact h
 ·exact h
theorem getD_self {listed : Array Bool} {j k : Nat} (h : (listed.setIfInBounds j true).getD k false = true) : k = j ∨ listed.getD k false = true := by
 by_cases hk : k = j
 ·exact .inl hk
 ·right
  rw [Array.getD_eq_getD_getElem?] at h ⊢
  rwa [Array.getElem?_setIfInBounds, if_neg (fun e => hk e.symm)] at h
theorem Clo.step {j : Nat} {oj : Oper} {listed : Array Bool} (hc : Clo md ops listed) (hoj : ops[j]? = some oj) (hall : ∀ e ∈ oj.after, Region.binds md e = true → listed.getD e.on false = true) : Clo md ops (listed.setIfInBounds j true) := by
 intro p o hp hl e he hb
 rcases getD_self hl with rfl | h1
 ·obtain rfl : oj = o := Option.some.inj (hoj.symm.trans hp)
  exact getD_mono (hall e he hb)
 ·exact getD_mono (hc p o hp h1 e he hb)
theorem wpAnyL_first {i : Nat} {oi : Oper} {v : Value} (hi : ops[i]? = some oi) (hsel : ∀ (j : Nat) (o : Oper) cs b, ops[j]? = some o → o.op ≠ .select cs b)
  (hQ : ∀ c a w, Q (.panic c) (a.put oi.dst v) w → Q (.panic c) a w) (hl : lateOk md ops late i = true) :
  ∀ (fuel : Nat) (listed : Array Bool) (a : Act) (w : World), Clo md ops listed →
   (∀ j oj, ops[j]? = some oj → j ≠ i → listed.getD j true = false → (∀ e ∈ oj.after, Region.binds md e = true → e.on ≠ i) → oi.apart ops oj = true) →
   i ∈ Region.ready md ops listed → YieldsIf P ops S oi v a → S w →
   wpAnyL P md ops Q S late fuel (listed.setIfInBounds i true) (a.put oi.dst v) w → wpAnyL P md ops Q S late (fuel + 1) listed a w := by
 have hun : ∀ listed : Array Bool, i ∈ Region.ready md ops listed → listed.getD i false = true → False := fun listed hr h => by
  have h0 := (mem_ready.1 hr).1
  rw [Array.getD_eq_getD_getElem?] at h h0
  cases h1 : listed[i]? with
  | none => rw [h1] at h; cases h
  | some b => rw [h1] at h h0; simp only [Option.getD_some] at h h0; rw [h] at h0; cases h0
 have hearly : ∀ (listed : Array Bool) j, Clo md ops listed → i ∈ Region.ready md ops listed → j ∈ Region.ready md ops listed → late.contains j = false := fun listed j hc hr hj => by
  rw [Bool.eq_false_iff]
  intro hcj
  have h1 := List.all_eq_true.1 hl j (List.contains_iff_mem.1 hcj)
  obtain ⟨_, oj, hoj, hall⟩ := mem_ready.1 hj
  exact hun listed hr (reach_listed hc _ j (fun o ho e he hb => by
   obtain rfl : oj = o := Option.some.inj (hoj.symm.trans ho)
   exact hall e he hb) h1)
 intro fuel
 induction fuel with
 | zero =>
  intro listed a w hcl _ hr hy hS H
  refine ⟨fun h => (by rw [h] at hr; cases hr), fun j hj => ?_⟩
  by_cases hji : j = i
  ·subst hji; exact hy.wpOp hi hS ⟨fun _ _ => hS, H⟩
  ·have := ready_mono hj hji
   rw [H.1] at this
   cases this
 | succ fuel ih =>
  intro listed a w hcl hfree hr hy hS H
  refine ⟨fun h => (by rw [h] at hr; cases hr), fun j hj => ?_⟩
  by_cases hji : j = i
  ·subst hji; exact hy.wpOp hi hS ⟨fun _ _ => hS, H⟩
  ·have h1 := H.2 j (ready_mono hj hji)
   have hej := hearly listed j hcl hr hj
   obtain ⟨hjun, oj, hoj, hall⟩ := mem_ready.1 hj
   have hnot : ∀ e ∈ oj.after, Region.binds md e = true → e.on ≠ i := fun e he hb heq => hun listed hr (by rw [← heq]; exact hall e he hb)
   have h2 := wpOp_putIf hoj (hfree j oj hoj hji hjun hnot) (fun cs b => hsel i oi cs b hi) (fun cs b => hsel j oj cs b hoj) hQ hy h1
   have hfree' : ∀ k ok, ops[k]? = some ok → k ≠ i → (listed.setIfInBounds j true).getD k true = false →
     (∀ e ∈ ok.after, Region.binds md e = true → e.on ≠ i) → oi.apart ops ok = true := fun k ok hk hki hun hno => by
    refine hfree k ok hk hki ?_ hno
    by_cases hjk : j = k
    ·subst hjk; exact hjun
    ·rw [getD_set_ne true hjk] at hun; exact hun
   refine wpOp_mono (fun a' w' h3 => ⟨h3.2.1, ih (listed.setIfInBounds j true) a' w' (hcl.step hoj hall) hfree' (ready_mono hr (Ne.symm hji)) h3.1 (h3.2.1 hej hS) ?_⟩) h2
   rw [Array.setIfInBounds_comm _ _ hji]
   exact h3.2.2
theorem wpAnyL_take {i : Nat} {oi : Oper} {v : Value} {fuel : Nat} {listed : Array Bool} {a : Act} {w : World} (hi : ops[i]? = some oi)
  (hs : Region.noSelect ops = true) (hf : Region.free md ops listed i = true) (hr : (Region.ready md ops listed).contains i = true)
  (hQ : ∀ c a w, Q (.panic c) (a.put oi.dst v) w → Q (.panic c) a w) (hy : YieldsIf P ops S oi v a) (hl : lateOk md ops late i = true) (hc : closedO md ops listed = true) (hS : S w)
  (h : wpAnyL P md ops Q S late fuel (listed.setIfInBounds i true) (a.put oi.dst v) w) : wpAnyL P md ops Q S late (fuel + 1) listed a w :=
 wpAnyL_first hi (Region.noSelect_spec hs) hQ hl fuel listed a w (closedO_spec hc) (Region.free_spec hi hf) (by simpa using hr) hy hS h
def AllReadyL (P : Program) (md : Region.Mode) (ops : Array Oper) (Q : Exit → Act → World → Prop) (S : World → Prop) (late : List Nat) (fuel : Nat) (listed : Array Bool) (a : Act) (w : World) (rs : List Nat) : Prop :=
 ∀ i ∈ rs, wpOp P ops Q i (fun a' w' => (late.contains i = false → S w → S w') ∧ wpAnyL P md ops Q S late fuel (listed.setIfInBounds i true) a' w') a w
theorem AllReadyL.nil {fuel : Nat} {listed : Array Bool} {a : Act} {w : World} : AllReadyL P md ops Q S late fuel listed a w [] := fun _ h => by cases h
theorem AllReadyL.cons {fuel : Nat} {listed : Array Bool} {a : Act} {w : World} {i : Nat} {o : Oper} {rs : List Nat} (ho : ops[i]? = some o)
  (h : ∀ K' : Act → World → Prop, Shut (∀ a w, S w → (S w → wpAnyL P md ops Q S late fuel (listed.setIfInBounds i true) a w) → K' a w) → if Region.wanted o (yielded ops a.tmps) = true then Oper.wp P o a w K' Q else K' (a.put o.dst undef) w)
  (hs : AllReadyL P md ops Q S late fuel listed a w rs) : AllReadyL P md ops Q S late fuel listed a w (i :: rs) := fun j hj => by
 rcases List.mem_cons.1 hj with rfl | hj
 ·exact wpOp_step ho (fun K' hK => h K' (fun a w hS hW => hK a w ⟨fun _ _ => hS, hW hS⟩))
 ·exact hs j hj
theorem AllReadyL.consL {fuel : Nat} {listed : Array Bool} {a : Act} {w : World} {i : Nat} {o : Oper} {rs : List Nat} (ho : ops[i]? = some o) (hl : late.contains i = true)
  (h : ∀ K' : Act → World → Prop, Shut (∀ a w, wpAnyL P md ops Q S late fuel (listed.setIfInBounds i true) a w → K' a w) → if Region.wanted o (yielded ops a.tmps) = true then Oper.wp P o a w K' Q else K' (a.put o.dst undef) w)
  (hs : AllReadyL P md ops Q S late fuel listed a w rs) : AllReadyL P md ops Q S late fuel listed a w (i :: rs) := fun j hj => by
 rcases List.mem_cons.1 hj with rfl | hj
 ·exact wpOp_step ho (fun K' hK => h K' (fun a w hW => hK a w ⟨fun h0 => (Bool.noConfusion (hl.symm.trans h0)), hW⟩))
 ·exact hs j hj
theorem wpAnyL_ready {rs : List Nat} {fuel : Nat} {listed : Array Bool} {a : Act} {w : World} (hr : Region.ready md ops listed = rs) (hne : rs ≠ [])
  (h : AllReadyL P md ops Q S late fuel listed a w rs) : wpAnyL P md ops Q S late (fuel + 1) listed a w := by
 refine ⟨fun h0 => absurd (hr.symm.trans h0) hne, ?_⟩
 rw [hr]
 exact h
theorem wpAnyL_done {listed : Array Bool} {a : Act} {w : World} (hr : Region.ready md ops listed = []) (h : Q .normal a w) : ∀ fuel, wpAnyL P md ops Q S late fuel listed a w
 | 0 => ⟨hr, h⟩
 | _ + 1 => ⟨fun _ => h, by rw [hr]; simp⟩
theorem wp_region_late_drew (late : List Nat) {id : Nat} {a : Act} {w : World} (hm : P.follows .mixedOrders = true) (hS : S w.drew)
  (h : S w.drew → wpAnyL P .any ops Q S late ops.size (Array.replicate ops.size false) a w.drew) : (Code.region id ops true).wp P Q a w :=
 wp_region_any hm (wpAny_of_late _ _ _ _ (h hS))
end
end Go.Proofs.YtofmcalfbpjoeaaGreatDoor
