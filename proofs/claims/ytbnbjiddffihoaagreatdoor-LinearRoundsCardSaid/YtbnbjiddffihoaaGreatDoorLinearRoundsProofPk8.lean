/- Texts for the statement LinearRoundsProof, part 8 of 9: TPs, OwnU, Pai, Jnd, Jon, CoR, LinQ, TJo, LiV, LinF, LiW, SmI, Sane14, TSome, RdGa, RdSu, RdWi, Same14, L16Q, Lw16, L16. -/
import Derived.BigQuiet
import Derived.Laws.OwnMore
import Derived.Test.YtbnbjiddffihoaaGreatDoorLinearRoundsProofPk1
import Derived.Test.YtbnbjiddffihoaaGreatDoorLinearRoundsProofPk3
import Derived.Test.YtbnbjiddffihoaaGreatDoorLinearRoundsProofPk4
import Derived.Test.YtbnbjiddffihoaaGreatDoorLinearRoundsProofPk5
import Derived.Test.YtbnbjiddffihoaaGreatDoorLinearRoundsProofPk6
import Derived.Test.YtbnbjiddffihoaaGreatDoorLinearRoundsProofPk7

/- Lists of peers from the tape. -/
namespace Go.Proofs.YtbnbjiddffihoaaGreatDoor
open Go.RowKit

theorem OwnP.app2 {eP eI eN : TypeId} (hI : eP ≠ eI) (hN : eP ≠ eN) {base : Nat} {w0 w1 w2 : World} {v v' : Value} {qs : List PQ} {P : List Pr} {p : Pr} {hk hn : Hdr} (h : OwnP eP eI eN base w0 v qs P) (hb : base ≤ w0.heap.size) (h1 : OwnP eP eI eN base w1 v qs P)
    (ik : OwnL 1 encI eI w0.heap.size w1 hk.val p.known) (inr : OwnL 4 encNr eN w0.heap.size w1 hn.val p.near)
    (ho : OwnW 5 encQ eP base w2 v' (qs ++ [(p.nums, hk, hn)])) (k : Chg (fun k => k < w1.heap.size ∧ ¬ v.ownBlock = some k) w1 w2) : OwnP eP eI eN base w2 v' (qs ++ [(p.nums, hk, hn)]) (P ++ [p]) := by
  refine h1.push hI hN ho k (ik.base hb) (inr.base hb) (fun j r g hr hg hv => ?_) (fun j r g hr hg hv => ?_)
  · obtain ⟨q, _, _, r2, _⟩ := h.getp hr
    have h1 := (r2.lt g hg).2
    have h2 := (ik.lt g hv).1
    omega
  · obtain ⟨q, _, _, _, r3⟩ := h.getp hr
    have h1 := (r3.lt g hg).2
    have h2 := (inr.lt g hv).1
    omega
def FewP (m : Nat) (P : List Pr) : Prop := ∀ p ∈ P, p.known.length ≤ 3 ∧ p.near.length ≤ m ∧ I64 p.id
structure PsOf (k m b : Nat) (w w' : World) (v : Value) (qs : List PQ) (P : List Pr) : Prop where
  own : OwnPr w.heap.size w' v qs P
  len : P.length ≤ k
  few : FewP m P
  tape : TK w' b
  k : Exb b w w'
def PsPost (k m b : Nat) (w : World) (e : Ending) (w' : World) : Prop := ∃ v qs P, e = .returned v ∧ PsOf k m b w w' v qs P
theorem FewP.snoc {m : Nat} {P : List Pr} (h : FewP m P) {p : Pr} (hp : p.known.length ≤ 3 ∧ p.near.length ≤ m ∧ I64 p.id) : FewP m (P ++ [p]) := fun x hx => by
  rcases List.mem_append.1 hx with h1 | h1
  · exact h x h1
  · rw [List.mem_singleton.1 h1]; exact hp
def PsLoop (n m b : Nat) (w : World) (o i : Value) (wr : World) : Prop := ∃ (j : Nat) (qs : List PQ) (P : List Pr), j ≤ n ∧ i = .int .i64 j ∧ PsOf j m b w wr o qs P
set_option maxRecDepth 100000 in
set_option maxHeartbeats 8000000 in
theorem peers_t {b : Nat} (ht : Nat) (a : Option Addr) (na cp : Nat) (l : List Nd) (w : World) (h : TK w b) (hs : Slb 3 encN b w a na l) (hna : na ≤ 1000) (hi : ∀ x ∈ l, I64 x.id) (hht : ht ≤ 100) :
    Calls Tryz.prog 10 #[.pointer (some ⟨b, 0, none⟩), .slice a na cp, .int .i64 ht] w (PsPost (na + 1) (ht + 1) b w) := by
  have hbw := h.lt
  have HI := Lib.hid hi
  have HS := Lib.hid hs
  clear hi hs
  go_enter Tryz.func10, Tryz.ntmps10
  go_wp2_with fail
  go_loopw [7, 8] (fun o i wr => PsLoop na (ht + 1) b w o i wr) (fun _ i _ => na - (intOf i).toNat)
  case atStart => exact ⟨0, [], [], by omega, rfl, OwnP.nil _ _ _ _ _, by simp, by intro p hp; simp at hp, h, Exb.refl _ _⟩
  case round =>
    clear h
    obtain ⟨j, qs, P, hj, rfl, R⟩ := hrel
    obtain ⟨wo, rfl⟩ : ∃ wo : World, wo = wr := ⟨_, rfl⟩
    have T := R.tape
    have hPl := R.len
    have zo := R.k.size
    have hql : qs.length ≤ 1001 := by have := R.own.2.1; omega
    have R := Lib.hid R
    by_cases hjn : j < na
    · obtain ⟨xl, ol, y, rfl, hxl, hy, hcl⟩ := Rd.at (HS.out.nxb R.out.k) (j := j) hjn
      have e0 : wo.cell? ⟨xl, ol + j * 3, none⟩ = some (.int .i64 y.id) := hcl 0 _ rfl
      have hyi := Lib.hid (HI.out y (List.mem_of_getElem? hy))
      clear hcl hy
      go_wp2_with fail
      (refine (peer_t ht _ _ _ l _ T (HS.out.nxb R.out.k) hna HI.out hht).mono ?_)
      clear T
      rintro e w2 ⟨p, ⟨A1, m1, c1⟩, ⟨A4, m4, c4⟩, rfl, D⟩
      have ok := D.ok
      have on := D.on
      have T := D.tape
      have K2 := Lib.hid D.k
      have dl := Lib.hid (show p.known.length ≤ 3 ∧ p.near.length ≤ ht + 1 ∧ I64 p.id from ⟨D.lk, D.ln, D.id⟩)
      replace e0 := Chg.cellv D.k e0 hxl
      have hx2 := Nat.lt_of_lt_of_le hxl.1 D.k.size
      have hxb := hxl.2
      simp only [Hdr.val] at ok on ⊢
      have z2 := D.k.size
      clear D
      have B9 := Blk.new w2 [.int .i64 p.id, .slice A1 m1 c1, .int .i64 p.left, .int .i64 p.right, .slice A4 m4 c4] 45
      have kk := Ex.new w2 (.cells #[.int .i64 p.id, .slice A1 m1 c1, .int .i64 p.left, .int .i64 p.right, .slice A4 m4 c4] 45)
      obtain ⟨w3, hw3⟩ : ∃ w3, w3 = w2.alloc (.cells #[.int .i64 p.id, .slice A1 m1 c1, .int .i64 p.left, .int .i64 p.right, .slice A4 m4 c4] 45) := ⟨_, rfl⟩
      obtain ⟨g9, hg9⟩ : ∃ g9, g9 = w2.heap.size := ⟨_, rfl⟩
      replace B9 : Blk w3 g9 [.int .i64 p.id, .slice A1 m1 c1, .int .i64 p.left, .int .i64 p.right, .slice A4 m4 c4] 45 := by rw [hw3, hg9]; exact B9
      rw [← hw3] at kk
      have Hw3 := Lib.hid hw3
      have Hg9 := Lib.hid hg9
      replace ok := ok.nx kk
      replace on := on.nx kk
      replace T := T.nx kk
      have zg9 : wo.heap.size ≤ g9 := by omega
      have n9b : g9 ≠ b := by omega
      have zb9 : b < g9 := by omega
      have nx9 : ¬ xl = g9 := by omega
      replace e0 := Chg.cellv (p := ⟨xl, ol + j * 3, none⟩) kk e0 hx2
      replace K2 := Lib.hid (K2.out.nxb (kk.b b))
      have hx3 := Nat.lt_of_lt_of_le hx2 kk.size
      clear kk hw3 hg9
      go_upto_region 6 with fail
      rw [← Hg9.out, ← Hw3.out]
      clear Hg9 Hw3
      go_wp2_with fail
      (refine (bool_t 8 _ T (by omega) (by omega)).mono ?_)
      clear T
      rintro e w4 ⟨rb, rfl, T, kk⟩
      replace K2 := Lib.hid (K2.out.nxb kk)
      replace B9 := B9.nxb n9b kk
      replace ok := ok.nxb (by omega) kk
      replace on := on.nxb (by omega) kk
      replace e0 := Chg.cellv (p := ⟨xl, ol + j * 3, none⟩) kk e0 ⟨hx3, hxb⟩
      clear kk
      have OWN4 := Lib.hid (R.out.own.nxb hbw K2.out)
      have KW4 := Lib.hid (R.out.k.nxb K2.out)
      cases rb with
      | true =>
        have RR := Lib.hid (show PsLoop na (ht + 1) b w u7 (.int .i64 ((j : Int) + 1)) w4 from ⟨j + 1, qs, P, by omega, by go_num, OWN4.out, by omega, R.out.few, T, KW4.out⟩)
        clear ok on T B9 e0
        go_wp2_with fail
        exact ⟨RR.out, by simp [intOf]; omega⟩
      | false =>
        have c0 := B9.cell 0 _ rfl
        have f0 := B9.free 0
        have KS : Exb g9 w4 (w4.setCell ⟨g9, 0, none⟩ (.int .i64 y.id)) := (Exb.refl g9 w4).setB (p := ⟨g9, 0, none⟩) _ rfl
        obtain ⟨w5, hw5⟩ : ∃ w5, w5 = w4.setCell ⟨g9, 0, none⟩ (.int .i64 y.id) := ⟨_, rfl⟩
        go_upto_region 8 with fail
        rw [← hw5] at KS ⊢
        have ok5 := ok.put B9 (by decide) KS
        have on5 := on.put B9 (by decide) KS
        have T5 : TK w5 b := by rw [hw5]; exact T.set (p := ⟨g9, 0, none⟩) _ zb9
        have K5 : Exb b wo w5 := by rw [hw5]; exact K2.out.setNew (p := ⟨g9, 0, none⟩) _ zg9
        replace B9 : Blk w5 g9 [.int .i64 y.id, .slice A1 m1 c1, .int .i64 p.left, .int .i64 p.right, .slice A4 m4 c4] 45 := by rw [hw5]; exact B9.set 0 _
        have p0 := B9.cell 0 _ rfl
        have p1 := B9.cell 1 _ rfl
        have p2 := B9.cell 2 _ rfl
        have p3 := B9.cell 3 _ rfl
        have p4 := B9.cell 4 _ rfl
        have OWN5 := Lib.hid (R.out.own.nxb hbw K5)
        have KW5 := Lib.hid (R.out.k.nxb K5)
        have kl := Ex.new w5 (.cells #[.int .i64 y.id, .slice A1 m1 c1, .int .i64 p.left, .int .i64 p.right, .slice A4 m4 c4] 45)
        have OL := Lib.hid (OWN5.out.nx kl)
        have okl := Lib.hid (ok5.nx kl)
        have onl := Lib.hid (on5.nx kl)
        have Tl := T5.nx kl
        have KL := Lib.hid (KW5.out.nxb (kl.b b))
        have zl := KL.out.size
        clear hw5 c0 f0 KS ok on T B9 e0 T5 K5 ok5 on5 kl
        go_wp2_with (at_builtin; (refine wpList_append_W (enc := encQ) _ rfl _ _ 24 rfl w.heap.size 45 (.agg #[.int .i64 0, .slice none 0 0, .int .i64 0, .int .i64 0, .slice none 0 0]) 5 72 Tryz.underlying24 Tryz.infoPr rfl (by omega) (by omega) _ qs OL.out.row rfl _ 1 1 [((y.id, p.left, p.right), (A1, m1, c1), (A4, m4, c4))] (Sl.lit _ rfl rfl encQ_len rfl) encQ_len encQ_one rfl (by omega) (by omega) zl ?_); intro v9 w9 own9 ch0 ch1 _)
        have O9 := R.out.own.app2 (p := ⟨y.id, p.left, p.right, p.known, p.near⟩) (hk := (A1, m1, c1)) (hn := (A4, m4, c4)) (by decide) (by decide) zo OL.out okl.out onl.out own9 ch0
        exact ⟨⟨j + 1, _, P ++ [⟨y.id, p.left, p.right, p.known, p.near⟩], by omega, by go_num, O9, by simp; omega, R.out.few.snoc ⟨dl.out.1, dl.out.2.1, hyi.out⟩, TP.chg Tl ch1 (fun x hx => by omega), Chg.trans KL.out (ch1.mono (fun x hx => hx.1))⟩, by simp [intOf]; omega⟩
    · obtain rfl : j = na := by omega
      go_wp2_with fail
      (refine (bool_t 4 _ T (by omega) (by omega)).mono ?_)
      clear T
      rintro e w4 ⟨rb, rfl, T, kk⟩
      have OWN4 := Lib.hid (R.out.own.nxb hbw kk)
      have KW4 := Lib.hid (R.out.k.nxb kk)
      clear kk
      cases rb with
      | false =>
        have RR := Lib.hid (show PsOf (j + 1) (ht + 1) b w w4 u7 qs P from ⟨OWN4.out, by omega, R.out.few, T, KW4.out⟩)
        clear T
        go_wp2_with fail
        go_ret
        exact ⟨_, qs, P, rfl, RR.out⟩
      | true =>
        have zo4 := KW4.out.size
        go_wp2_with fail
        (refine (peer_t ht _ _ _ l _ T (HS.out.nxb KW4.out) hna HI.out hht).mono ?_)
        clear T
        rintro e w5 ⟨p, ⟨A1, m1, c1⟩, ⟨A4, m4, c4⟩, rfl, D⟩
        have OWN5 := Lib.hid (OWN4.out.nxb hbw D.k)
        have KW5 := Lib.hid (KW4.out.nxb D.k)
        have dl := Lib.hid (show p.known.length ≤ 3 ∧ p.near.length ≤ ht + 1 ∧ I64 p.id from ⟨D.lk, D.ln, D.id⟩)
        have kl := Ex.new w5 (.cells #[.int .i64 p.id, .slice A1 m1 c1, .int .i64 p.left, .int .i64 p.right, .slice A4 m4 c4] 45)
        have OL := Lib.hid (OWN5.out.nx kl)
        have okl := Lib.hid (D.ok.nx kl)
        have onl := Lib.hid (D.on.nx kl)
        have Tl := D.tape.nx kl
        have KL := Lib.hid (KW5.out.nxb (kl.b b))
        have zl := KL.out.size
        simp only [Hdr.val]
        clear D kl
        go_wp2_with (at_builtin; (refine wpList_append_W (enc := encQ) _ rfl _ _ 24 rfl w.heap.size 45 (.agg #[.int .i64 0, .slice none 0 0, .int .i64 0, .int .i64 0, .slice none 0 0]) 5 72 Tryz.underlying24 Tryz.infoPr rfl (by omega) (by omega) _ qs OL.out.row rfl _ 1 1 [((p.id, p.left, p.right), (A1, m1, c1), (A4, m4, c4))] (Sl.lit _ rfl rfl encQ_len rfl) encQ_len encQ_one rfl (by omega) (by omega) zl ?_); intro v9 w9 own9 ch0 ch1 _)
        have O9 := OWN4.out.app2 (p := p) (hk := (A1, m1, c1)) (hn := (A4, m4, c4)) (by decide) (by decide) zo4 OL.out okl.out onl.out own9 ch0
        have RR := Lib.hid (show PsOf (j + 1) (ht + 1) b w w9 v9 _ (P ++ [p]) from ⟨O9, by simp; omega, R.out.few.snoc dl.out, TP.chg Tl ch1 (fun x hx => by omega), Chg.trans KL.out (ch1.mono (fun x hx => hx.1))⟩)
        clear own9 ch0 ch1 O9 Tl
        go_ret
        exact ⟨_, _, _, rfl, RR.out⟩
end Go.Proofs.YtbnbjiddffihoaaGreatDoor

/- Peers of the call's own are changed in place. -/
namespace Go.Proofs.YtbnbjiddffihoaaGreatDoor
open Go.RowKit

section
variable {eP eI eN : TypeId} {base : Nat} {w w1 : World} {v : Value} {qs : List PQ} {P : List Pr}
theorem OwnP.upd (h : OwnP eP eI eN base w v qs P) {a : Nat} {q' : PQ} {p' : Pr} {w2 : World} (ha : a < qs.length) (row : OwnW 5 encQ eP base w2 v (qs.set a q')) (hq' : q'.1 = p'.nums)
    (oK : OwnL 1 encI eI base w2 q'.2.1.val p'.known) (oN : OwnL 4 encNr eN base w2 q'.2.2.val p'.near)
    (keep : ∀ (j : Nat) (r : PQ) (d : Pr), j ≠ a → qs[j]? = some r → P[j]? = some d → OwnL 1 encI eI base w2 r.2.1.val d.known ∧ OwnL 4 encNr eN base w2 r.2.2.val d.near)
    (fk : ∀ (j : Nat) (r : PQ) (g : Nat), j ≠ a → qs[j]? = some r → r.2.1.val.ownBlock = some g → ¬ q'.2.1.val.ownBlock = some g)
    (fn : ∀ (j : Nat) (r : PQ) (g : Nat), j ≠ a → qs[j]? = some r → r.2.2.val.ownBlock = some g → ¬ q'.2.2.val.ownBlock = some g) :
    OwnP eP eI eN base w2 v (qs.set a q') (P.set a p') := by
  have hl := h.2.1
  refine ⟨row, by simp [hl], fun j r d hr hd => ?_, fun i j qi qj g hi hj gi gj => ?_, fun i j qi qj g hi hj gi gj => ?_⟩
  · by_cases hja : j = a
    · subst hja
      rw [List.getElem?_set_self ha] at hr
      rw [List.getElem?_set_self (by omega)] at hd
      cases hr
      cases hd
      exact ⟨hq', oK, oN⟩
    · rw [List.getElem?_set_ne (fun h => hja h.symm)] at hr hd
      exact ⟨(h.2.2.1 j r d hr hd).1, keep j r d hja hr hd⟩
  · by_cases hia : i = a
    · by_cases hja : j = a
      · omega
      · subst hia
        rw [List.getElem?_set_self ha] at hi
        rw [List.getElem?_set_ne (fun h => hja h.symm)] at hj
        cases hi
        exact absurd gi (fk j qj g hja hj gj)
    · rw [List.getElem?_set_ne (fun h => hia h.symm)] at hi
      by_cases hja : j = a
      · subst hja
        rw [List.getElem?_set_self ha] at hj
        cases hj
        exact absurd gj (fk i qi g hia hi gi)
      · rw [List.getElem?_set_ne (fun h => hja h.symm)] at hj
        exact h.2.2.2.1 i j qi qj g hi hj gi gj
  · by_cases hia : i = a
    · by_cases hja : j = a
      · omega
      · subst hia
        rw [List.getElem?_set_self ha] at hi
        rw [List.getElem?_set_ne (fun h => hja h.symm)] at hj
        cases hi
        exact absurd gi (fn j qj g hja hj gj)
    · rw [List.getElem?_set_ne (fun h => hia h.symm)] at hi
      by_cases hja : j = a
      · subst hja
        rw [List.getElem?_set_self ha] at hj
        cases hj
        exact absurd gj (fn i qi g hia hi gi)
      · rw [List.getElem?_set_ne (fun h => hja h.symm)] at hj
        exact h.2.2.2.2 i j qi qj g hi hj gi gj
end
end Go.Proofs.YtbnbjiddffihoaaGreatDoor

/- Pairs of the reference of chapter 14. -/
namespace Go.Proofs.YtbnbjiddffihoaaGreatDoor
open Go.RowKit

end Go.Proofs.YtbnbjiddffihoaaGreatDoor

/- index of the reference of chapter 7. -/
namespace Go.Proofs.YtbnbjiddffihoaaGreatDoor
open Go.RowKit

end Go.Proofs.YtbnbjiddffihoaaGreatDoor

/- Joined of the reference of chapter 7: how many components it gives. -/
namespace Go.Proofs.YtbnbjiddffihoaaGreatDoor
open Go.RowKit

end Go.Proofs.YtbnbjiddffihoaaGreatDoor

/- Connected of the reference of chapter 14. -/
namespace Go.Proofs.YtbnbjiddffihoaaGreatDoor
open Go.RowKit

end Go.Proofs.YtbnbjiddffihoaaGreatDoor

/- The statements of chapter 16 about chains and garbage, in plain Lean. -/
namespace Go.Proofs.YtbnbjiddffihoaaGreatDoor
open Go.RowKit

section
variable {N : List Nd} {P : List Pr}
def SameIds (N : List Nd) (P : List Pr) : Prop := P.length = N.length ∧ ∀ (i : Nat) (x : Nd) (p : Pr), N[i]? = some x → P[i]? = some p → p.id = x.id
end
end Go.Proofs.YtbnbjiddffihoaaGreatDoor

/- Joined of the tape: peers by which the nodes are connected. -/
namespace Go.Proofs.YtbnbjiddffihoaaGreatDoor
open Go.RowKit

theorem wpList_append_rda {P : Program} {α : Type} {enc : α → List Value} {ops : Array Oper} {rest : List Oper} {o : Oper} {a : Act} {Q : Exit → Act → World → Prop} (w0 : World) (hgd : o.guard = none) (s x : Operand) (t : TypeId)
    (ho : o.op = .call { callee := .builtin .append, args := #[s, x], argTypes := #[t, t] })
    (base : Nat) (e : TypeId) (z : Value) (sz bytes : Nat) (ht : P.underlying t = some (.slice e)) (hi : (P.info? e).map (fun i => (i.zero, i.size, i.bytes)) = some (some z, sz, bytes))
    (hzs : z.cells.size = sz) (hsz : 0 < sz) (hby : bytes ≤ 65536)
    (v : Value) (l : List α) (hown : OwnL sz enc e base w0 v l) (hs : a.eval s = v) (S : Nat → Prop) (A : Option Addr) (n c : Nat) (news : List α) (hrd : Rd sz enc S w0 A n news) (hA : A = none → c = 0) (hlen : ∀ y, (enc y).length = sz) (h1 : ∀ y, ∀ u ∈ enc y, u.oneCell' = true)
    (hx : a.eval x = .slice A n c) (hl : l.length ≤ 100000000) (hn : n ≤ 100000000) (hbase : base ≤ w0.heap.size)
    (h : ∀ v' w', OwnL sz enc e base w' v' (l ++ news) → Chg (fun k => k < w0.heap.size ∧ ¬ v.ownBlock = some k) w0 w' → Chg (· < base) w0 w' → (v'.ownBlock = v.ownBlock ∨ v'.ownBlock = some w0.heap.size) → wpList P ops Q rest (a.put o.dst v') w') :
    wpList P ops Q (o :: rest) a w0 :=
  wpList_plain hgd fun _ hK => wp_append_rda w0 s x t ho base e z sz bytes ht hi hzs hsz hby v l hown hs S A n c news hrd hA hlen h1 hx hl hn hbase fun v' w' h2 h3 h4 h5 => hK _ _ (h v' w' h2 h3 h4 h5)
structure JoOf (b : Nat) (l : List Nd) (w w' : World) (v : Value) (qs : List PQ) (P : List Pr) : Prop where
  own : OwnPr w.heap.size w' v qs P
  ids : SameIds l P
  conn : ConnN l P
  small : ∀ p ∈ P, p.known.length ≤ 100 ∧ p.near.length ≤ 200
  tape : TK w' b
  k : Exb b w w'
def FewQ (m M : Nat) (P : List Pr) : Prop := ∀ p ∈ P, p.known.length ≤ m ∧ p.near.length ≤ M
theorem FewQ.snoc {m M : Nat} {P : List Pr} (h : FewQ m M P) {p : Pr} (hp : p.known.length ≤ m ∧ p.near.length ≤ M) : FewQ m M (P ++ [p]) := fun x hx => by
  rcases List.mem_append.1 hx with h1 | h1
  · exact h x h1
  · rw [List.mem_singleton.1 h1]; exact hp
theorem FewQ.set {m M m' M' a : Nat} {P : List Pr} (h : FewQ m M P) (hm : m ≤ m') (hM : M ≤ M') {p : Pr} (hp : p.known.length ≤ m' ∧ p.near.length ≤ M') : FewQ m' M' (P.set a p) := fun x hx => by
  rcases List.mem_or_eq_of_mem_set hx with h1 | h1
  · have := h x h1; omega
  · rw [h1]; exact hp
end Go.Proofs.YtbnbjiddffihoaaGreatDoor

/- Round of the reference 16. -/
namespace Go.Proofs.YtbnbjiddffihoaaGreatDoor
open Go.RowKit

def Sm2 (P : List Pr) : Prop := ∀ p ∈ P, p.known.length ≤ 2000000 ∧ p.near.length ≤ 2000000
theorem Sm2.sm {P : List Pr} (h : Sm2 P) : SmallP P := fun p hp => by have := h p hp; omega
theorem normal_sm2 (N : List Nd) {P : List Pr} (h : Sm2 P) : Sm2 (normalN N P) := by
  intro p hp
  unfold normalN at hp
  split at hp
  · obtain ⟨x, _, rfl⟩ := List.mem_map.1 hp
    unfold peerN
    cases hf : P.find? fun p => p.id == x.id with
    | none => exact ⟨Nat.zero_le _, Nat.zero_le _⟩
    | some q => exact h q (List.mem_of_find?_eq_some hf)
  · cases hp
theorem own_lit2 {e base g : Nat} {w : World} {x y : Int} (B : Blk w g [.int .i64 x, .int .i64 y] e) (hb : base ≤ g) : OwnL 1 encI e base w (.slice (some ⟨g, 0, none⟩) 2 2) [x, y] :=
  ⟨rfl, .inr ⟨g, 2, #[.int .i64 x, .int .i64 y], rfl, hb, B, Nat.le_refl _, by unfold maxLen; omega, rfl, rfl⟩⟩
def S19 (g : Nat) (id : Int) (w wq : World) : Prop := Exb g w wq ∧ wq.cell? ⟨g, 0, none⟩ = some (.int .i64 id)
def RaRel (N : List Nd) (Q : List Pr) (w : World) (o i : Value) (wr : World) : Prop :=
  ∃ j : Nat, j ≤ Q.length ∧ i = .int .i64 j ∧ OwnL 2 encS 89 w.heap.size wr o ((Q.take j).flatMap (introsN N)) ∧ Ex w wr
def RcRel (M : List (Int × Int)) (id kl kr : Int) (w : World) (o i : Value) (wr : World) : Prop :=
  ∃ k : Nat, k ≤ M.length ∧ i = .int .i64 k ∧ OwnL 1 encI 3 w.heap.size wr o ([kl, kr] ++ toldN (M.take k) id) ∧ Ex w wr
theorem told_take {M : List (Int × Int)} {k : Nat} {m : Int × Int} (h : M[k]? = some m) (id : Int) : toldN (M.take (k + 1)) id = toldN (M.take k) id ++ (if m.1 = id then [m.2] else []) := by
  rw [List.take_add_one, h]
  unfold toldN
  rw [List.filter_append, List.map_append]
  congr 1
  by_cases he : m.1 = id
  · rw [if_pos he]; simp [he]
  · rw [if_neg he]; simp [he]
theorem told_le (M : List (Int × Int)) (id : Int) : (toldN M id).length ≤ M.length := by
  unfold toldN
  rw [List.length_map]
  exact List.length_filter_le _ _
set_option maxRecDepth 100000 in
set_option maxHeartbeats 16000000 in
theorem round_r (a : Option Addr) (n c : Nat) (N : List Nd) (a2 : Option Addr) (n2 c2 : Nat) (P : List Pr) (w : World) (h : Sl 3 encN w a n N) (hn : n ≤ 1000) (h2 : PL w a2 n2 P) (hn2 : n2 ≤ 1000000) (hP : Sm2 P) :
    Calls Tryz.prog 42 #[.slice a n c, .slice a2 n2 c2] w (PlPost (roundN N P) w) := by
  have HL := Lib.hid h.len
  go_enter Tryz.func42, Tryz.ntmps42
  go_wp2_with fail
  (with_reducible refine (normal_r _ _ _ N _ _ _ P _ h hn h2 hn2 hP.sm).mono ?_)
  rintro e w3 ⟨v3, qs, rfl, OQ, kk⟩
  replace h := h.nx kk
  clear h2
  have K03 := Lib.hid kk
  obtain ⟨hQ1, hQ2⟩ := normal_le N P
  have HR := Lib.hid (roundN_eq N P)
  have HQS := Lib.hid (normal_sm2 N hP)
  generalize normalN N P = Q at OQ hQ1 hQ2 HR HQS
  obtain ⟨aQ, cQ, rfl, PQ0, _, _, _, _⟩ := OQ.pl
  have HPQ := Lib.hid PQ0
  have HOQ := Lib.hid OQ
  have hQn : Q.length ≤ n := by have := HL.out; omega
  have hNn : N.length ≤ 1000 := by have := HL.out; omega
  have hz3 := kk.size
  have HS3 := Lib.hid h
  have HQ2 := Lib.hid hQ2
  clear OQ PQ0 kk hQ1 hQ2 hP h
  go_wp2_with fail
  go_loopw [6, 7] (fun o i wr => RaRel N Q w3 o i wr) (fun _ i _ => Q.length - (intOf i).toNat)
  case atStart => exact ⟨0, by omega, rfl, OwnL.nil _ _ _ _ _, Ex.refl _⟩
  case round =>
    obtain ⟨j, hj, rfl, own, ki⟩ := hrel
    obtain ⟨wi, rfl⟩ : ∃ wi : World, wi = wr := ⟨_, rfl⟩
    by_cases hjm : j < Q.length
    · obtain ⟨x5, o5, b1, m1, d1, b4, m4, d4, y, rfl, hx5, hy, e0, e1, e2, e3, e4, s1, s4⟩ := (HPQ.out.nx ki).rd hjm
      have FS := Lib.hid (flat_snoc (N := N) hy)
      have hEl : ((Q.take j).flatMap (introsN N)).length ≤ 1000 * 2000 := by
        refine Nat.le_trans (flat_len N (Q.take j)) (Nat.mul_le_mul ?_ ?_)
        · rw [List.length_take]; omega
        · omega
      have hIl : (introsN N y).length ≤ 2000 := Nat.le_trans (intros_len N y) (by omega)
      have hyP := HQS.out y (List.mem_of_getElem? hy)
      have hl1 : m1 ≤ 2000000 := by have := s1.len; omega
      have hl4 : m4 ≤ 2000000 := by have := s4.len; omega
      have S1 := Lib.hid s1
      have S4 := Lib.hid s4
      have KI := Lib.hid ki
      have hwi := ki.size
      generalize (Q.take j).flatMap (introsN N) = E at own FS hEl
      have OWN := Lib.hid own
      clear hy hyP s1 s4 ki own
      go_wp2_with fail
      (with_reducible refine (intros_r _ _ _ N y _ _ _ _ _ _ _ (HS3.out.nx KI.out) hn S1.out S4.out hl1 hl4).mono ?_)
      rintro e w5 ⟨vI, rfl, oI, kk⟩
      rename_i hK
      obtain ⟨aI, cI, rfl, rI, _, _, _⟩ := oI.rd (fun _ => rfl)
      have SI : Rd 2 encS (fun k => k < w5.heap.size) w5 aI (introsN N y).length (introsN N y) := rI.mono (fun _ hk => hk.2)
      have OW5 := OWN.out.nx kk
      have K5 := Lib.hid (KI.out.nx kk)
      have z5 := K5.out.size
      have hnil : aI = none → cI = 0 := by
        intro he
        obtain ⟨a', c', e', _, _, _, hz⟩ := (show OwnL 2 encS 89 wi.heap.size w5 (.slice aI (introsN N y).length cI) (introsN N y) from oI).slf (fun _ => rfl)
        injection e' with x1 x2 x3
        rw [x3]
        exact hz (by rw [← x1]; exact he)
      clear e0 e1 e2 e3 e4 oI rI kk
      generalize introsN N y = I at SI FS hIl hnil ⊢
      refine hK _ _ ?_
      clear hK
      refine wpList_append_rda (enc := encS) w5 rfl (.tmp 23) (.tmp 29) 62 rfl w3.heap.size 89 (.agg #[.int .i64 0, .int .i64 0]) 2 16 Tryz.underlying62 Tryz.infoIn rfl (by omega) (by omega) _ E OW5 rfl _ aI I.length cI I SI hnil (fun _ => rfl) (by simp [encS, Value.oneCell']) rfl (by omega) (by omega) z5 ?_
      intro v6 w6 own6 ch0 ch1 hz6
      go_wp2_with fail
      exact ⟨⟨j + 1, by omega, by go_num, by rw [FS.out]; exact own6, Chg.trans K5.out ch1⟩, by simp [intOf]; omega⟩
    · obtain rfl : j = Q.length := by omega
      rw [List.take_of_length_le (Nat.le_refl _)] at own
      have hMl : (Q.flatMap (introsN N)).length ≤ 2000000 := Nat.le_trans (flat_len N Q) (Nat.le_trans (Nat.mul_le_mul (show Q.length ≤ 1000 by omega) (show 2 * N.length ≤ 2000 by omega)) (by omega))
      have HMs : Hid (0 < Q.length → (Q.flatMap (introsN N)).length ≤ 128000) := Lib.hid (fun h0 => by
        have hN64 : N.length ≤ 64 := check_len (HQ2.out h0)
        exact Nat.le_trans (flat_len N Q) (Nat.le_trans (Nat.mul_le_mul (show Q.length ≤ 1000 by omega) (show 2 * N.length ≤ 128 by omega)) (by omega)))
      obtain ⟨aM, cM, rfl, rM, _, _, _⟩ := own.rd (fun _ => rfl)
      have SM : Hid (Sl 2 encS wi aM (Q.flatMap (introsN N)).length (Q.flatMap (introsN N))) := Lib.hid (rM.mono (fun _ hk => hk.2))
      generalize Q.flatMap (introsN N) = M at SM HR hMl HMs own rM ⊢
      have K3 := Lib.hid ki
      clear own rM ki hj hjm
      go_wp2_with fail
      go_loopw [8, 9] (fun o i wr => LtRel N Q M qs w.heap.size wi o i wr) (fun _ i _ => Q.length - (intOf i).toNat)
      case atStart => exact ⟨0, [], by omega, rfl, OwnP.nil _ _ _ _ _, (fun g hg => by cases hg), (by intro i q h; simp at h), Ex.refl _⟩
      case round =>
        obtain ⟨j2, qz, hj2, rfl, own, hblk, hnear, ki⟩ := hrel
        obtain ⟨wk, rfl⟩ : ∃ wk : World, wk = wr := ⟨_, rfl⟩
        have HB := Lib.hid hblk
        have HN := Lib.hid hnear
        clear hblk hnear
        by_cases hjm : j2 < Q.length
        · have hM1 := HMs.out (by omega)
          have own0 := HOQ.out.nx (K3.out.nx ki)
          obtain ⟨y, hy⟩ : ∃ y, Q[j2]? = some y := ⟨Q[j2], List.getElem?_eq_getElem hjm⟩
          obtain ⟨⟨A1, n1, c1⟩, ⟨A4, n4, c4⟩, hq, okn, onr⟩ := own0.get hy
          obtain ⟨a', cap', e', r', _⟩ := own0.1.rd encQ_len
          have hql : qs.length = Q.length := own0.2.1
          obtain ⟨x3, o3, q', ea, hx3, hq', hc3⟩ := Rd.at r' (j := j2) (by omega)
          obtain rfl : (y.nums, (A1, n1, c1), (A4, n4, c4)) = q' := Option.some.inj (hq.symm.trans hq')
          obtain rfl : aQ = some ⟨x3, o3, none⟩ := by injection e' with h1 h2 h3; rw [h1, ea]
          have e0 : wk.cell? ⟨x3, o3 + j2 * 5, none⟩ = some (.int .i64 y.id) := hc3 0 _ rfl
          have e1 : wk.cell? ⟨x3, o3 + j2 * 5 + 1, none⟩ = some (.slice A1 n1 c1) := hc3 1 _ rfl
          have e2 : wk.cell? ⟨x3, o3 + j2 * 5 + 1 + 1, none⟩ = some (.int .i64 y.left) := hc3 2 _ rfl
          have e3 : wk.cell? ⟨x3, o3 + j2 * 5 + 1 + 1 + 1, none⟩ = some (.int .i64 y.right) := hc3 3 _ rfl
          have e4 : wk.cell? ⟨x3, o3 + j2 * 5 + 1 + 1 + 1 + 1, none⟩ = some (.slice A4 n4 c4) := hc3 4 _ rfl
          have S1 : Hid (Sl 1 encI wk A1 n1 y.known) := Lib.hid (by obtain ⟨_, _, e, r, _⟩ := okn.rd (fun _ => rfl); injection e with h1 h2 h3; subst h1 h2 h3; exact r.mono (fun _ hk => hk.2))
          have S4 : Hid (Sl 4 encNr wk A4 n4 y.near) := Lib.hid (by obtain ⟨_, _, e, r, _⟩ := onr.rd (fun _ => rfl); injection e with h1 h2 h3; subst h1 h2 h3; exact r.mono (fun _ hk => hk.2))
          have hyP := HQS.out y (List.mem_of_getElem? hy)
          have hl1 : n1 ≤ 2000000 := by have := S1.out.len; omega
          have hl4 : n4 ≤ 2000000 := by have := S4.out.len; omega
          have ONR := Lib.hid onr
          have FN : Hid (∀ (j : Nat) (r : PQ) (g : Nat), qz[j]? = some r → j < j2 → r.2.2.val.ownBlock = some g → ¬ (Value.slice A4 n4 c4).ownBlock = some g) := Lib.hid (fun i r g hr hi hg hv => by
            obtain ⟨q0, h0, h1⟩ := HN.out i r hr
            rw [h1] at hg
            have := own0.2.2.2.2 i j2 q0 _ g h0 hq hg hv
            omega)
          have HQJ := Lib.hid hq
          have hqz : qz.length = j2 := by rw [own.2.1, List.length_map, List.length_take]; omega
          have SN : Hid ((Q.take (j2 + 1)).map (rndP N M) = (Q.take j2).map (rndP N M) ++ [rndP N M y]) := Lib.hid (by rw [List.take_add_one, hy, List.map_append]; rfl)
          have HRP : Hid (rndP N M y = { y with left := (keepN N y).1, right := (keepN N y).2, known := ordN N ([(keepN N y).1, (keepN N y).2] ++ toldN M y.id) y.id }) := Lib.hid rfl
          have OWN := Lib.hid own
          have KI := Lib.hid ki
          have hwi : w.heap.size ≤ wk.heap.size := (K03.out.nx (K3.out.nx ki)).size
          clear own0 hq okn onr e' r' hql hx3 hq' hc3 hyP hy own ki
          have B13 := Blk.new wk [.int .i64 y.id, .slice A1 n1 c1, .int .i64 y.left, .int .i64 y.right, .slice A4 n4 c4] 45
          have kk := Ex.new wk (.cells #[.int .i64 y.id, .slice A1 n1 c1, .int .i64 y.left, .int .i64 y.right, .slice A4 n4 c4] 45)
          obtain ⟨w11, hw11⟩ : ∃ w11, w11 = wk.alloc (.cells #[.int .i64 y.id, .slice A1 n1 c1, .int .i64 y.left, .int .i64 y.right, .slice A4 n4 c4] 45) := ⟨_, rfl⟩
          obtain ⟨g13, hg13⟩ : ∃ g13, g13 = wk.heap.size := ⟨_, rfl⟩
          replace B13 : Blk w11 g13 [.int .i64 y.id, .slice A1 n1 c1, .int .i64 y.left, .int .i64 y.right, .slice A4 n4 c4] 45 := by rw [hw11, hg13]; exact B13
          rw [← hw11] at kk
          have Hw11 := Lib.hid hw11
          have Hg13 := Lib.hid hg13
          have K11 := Lib.hid kk
          have zg13 : wk.heap.size ≤ g13 := by omega
          clear kk hw11 hg13
          go_upto_region 12 with fail
          rw [← Hg13.out, ← Hw11.out]
          clear Hg13 Hw11
          have q0 := B13.cell 0 _ rfl
          have q1 := B13.cell 1 _ rfl
          have q2 := B13.cell 2 _ rfl
          have q3 := B13.cell 3 _ rfl
          have q4 := B13.cell 4 _ rfl
          clear e0 e1 e2 e3 e4
          go_wp2_with fail
          (with_reducible refine (keep_r _ _ _ N y _ _ _ _ _ _ _ (HS3.out.nx (K3.out.nx (KI.out.nx K11.out))) hn (S1.out.nx K11.out) (S4.out.nx K11.out) hl1 hl4).mono ?_)
          rintro e w12 ⟨rfl, kk⟩
          replace B13 := B13.nx kk
          replace K11 := Lib.hid (K11.out.nx kk)
          clear q0 q1 q2 q3 q4 kk
          generalize keepN N y = kl at HRP ⊢
          obtain ⟨kl, kr⟩ := kl
          simp only at HRP ⊢
          have hl12 := B13.lt
          have B14 := Blk.new w12 [.int .i64 kl, .int .i64 kr] 65
          have kk := Ex.new w12 (.cells #[.int .i64 kl, .int .i64 kr] 65)
          obtain ⟨w13, hw13⟩ : ∃ w13, w13 = w12.alloc (.cells #[.int .i64 kl, .int .i64 kr] 65) := ⟨_, rfl⟩
          obtain ⟨g14, hg14⟩ : ∃ g14, g14 = w12.heap.size := ⟨_, rfl⟩
          replace B14 : Blk w13 g14 [.int .i64 kl, .int .i64 kr] 65 := by rw [hw13, hg14]; exact B14
          rw [← hw13] at kk
          have Hw13 := Lib.hid hw13
          have Hg14 := Lib.hid hg14
          replace B13 := B13.nx kk
          replace K11 := Lib.hid (K11.out.nx kk)
          have N14 := Lib.hid (show g13 < g14 by have := B13.lt; have := hg14; have := hl12; omega)
          clear kk hw13 hg14
          go_upto_region 13 with fail
          rw [← Hg14.out, ← Hw13.out]
          clear Hg14 Hw13
          have r0 := B14.cell 0 _ rfl
          have r1 := B14.cell 1 _ rfl
          have B13h := Lib.hid B13
          have B14h := Lib.hid B14
          have hg13l := B13.lt
          clear B13 B14
          have BK := Blk.new w13 [.int .i64 kl, .int .i64 kr] 3
          have kk := Ex.new w13 (.cells #[.int .i64 kl, .int .i64 kr] 3)
          obtain ⟨w14, hw14⟩ : ∃ w14, w14 = w13.alloc (.cells #[.int .i64 kl, .int .i64 kr] 3) := ⟨_, rfl⟩
          obtain ⟨gk, hgk⟩ : ∃ gk, gk = w13.heap.size := ⟨_, rfl⟩
          replace BK : Blk w14 gk [.int .i64 kl, .int .i64 kr] 3 := by rw [hw14, hgk]; exact BK
          rw [← hw14] at kk
          have Hw14 := Lib.hid hw14
          have Hgk := Lib.hid hgk
          have KK := Lib.hid kk
          have OK0 := Lib.hid (own_lit2 (base := w13.heap.size) BK (by omega))
          clear kk hw14 hgk BK
          go_upto_region 14 with fail
          rw [← Hgk.out, ← Hw14.out]
          clear Hgk Hw14
          have z13 := K11.out.size
          have zw13 : w.heap.size ≤ w13.heap.size := Nat.le_trans hwi z13
          clear r0 r1
          go_wp2_with fail
          go_loopw [12, 13] (fun o i wr => RcRel M y.id kl kr w13 o i wr) (fun _ i _ => M.length - (intOf i).toNat)
          case atStart => exact ⟨0, by omega, rfl, OK0.out, KK.out⟩
          case round =>
            obtain ⟨k, hk, rfl, ok, kc⟩ := hrel
            obtain ⟨wc, rfl⟩ : ∃ wc : World, wc = wr := ⟨_, rfl⟩
            have K13 := Lib.hid (K11.out.nx kc)
            have kch := Lib.hid kc
            have zc := kc.size
            by_cases hkm : k < M.length
            · obtain ⟨xm, om, m, hea, hxm, hm, hcm⟩ := (SM.out.nx (KI.out.nx K13.out)).at hkm
              subst hea
              have CM0 : Hid (∀ wq, Ex wc wq → wq.cell? ⟨xm, om + k * 2, none⟩ = some (.int .i64 m.1)) := Lib.hid (fun wq kq => Chg.cellv kq (by simpa using hcm 0 _ rfl) hxm)
              have CM1 : Hid (∀ wq, Ex wc wq → wq.cell? ⟨xm, om + k * 2 + 1, none⟩ = some (.int .i64 m.2)) := Lib.hid (fun wq kq => Chg.cellv kq (hcm 1 _ rfl) hxm)
              have QI : Hid (∀ wq, Ex wc wq → wq.cell? ⟨g13, 0, none⟩ = some (.int .i64 y.id)) := Lib.hid (fun wq kq => (B13h.out.nx (kch.out.nx kq)).cell 0 _ rfl)
              have TT := Lib.hid (told_take hm y.id)
              have htl : (toldN (M.take k) y.id).length ≤ 128000 := Nat.le_trans (told_le _ _) (by rw [List.length_take]; omega)
              have hol : ([kl, kr] ++ toldN (M.take k) y.id).length ≤ 128002 := by rw [List.length_append]; simp; omega
              have hkc : (k : Int) < (M.length : Int) := by omega
              have TA : Hid (∀ l, [kl, kr] ++ (toldN (M.take k) y.id ++ l) = ([kl, kr] ++ toldN (M.take k) y.id) ++ l) := Lib.hid (fun l => (List.append_assoc _ _ _).symm)
              generalize toldN (M.take k) y.id = T at ok TT TA hol htl
              have OKh := Lib.hid ok
              clear hm hcm hxm kc ok
              go_upto_region 17 with fail
              refine wp_region_held_drew (S := Ex wc) (by kernel_rfl) ((Ex.refl wc).drew) (fun hHeld => ?_)
              obtain ⟨wd, hwdx⟩ : ∃ wd : World, wd = World.drew wc := ⟨_, rfl⟩
              rw [← hwdx] at hHeld ⊢
              have hDrew : Ex wc wd := by rw [hwdx]; exact (Ex.refl wc).drew
              clear hwdx
              refine wpAnyH_take (i := 0) (oi := ⟨some 55, .move (.tmp 6), 62, "ref.go:79", #[], none⟩) (v := ?_) rfl (by kernel_rfl) (by kernel_rfl) (by kernel_rfl) (fun _ _ _ h => h) (Or.inl ⟨by rfl, ?hyr1x0q5⟩) (by assumption) ?restr1x0q5
              case hyr1x0q5 => intro wq hSw; (go_simp); (try with_reducible rfl)
              try simp only [Act.put, List.setIfInBounds_toArray, List.set_cons_zero, List.set_cons_succ]
              refine wpAnyH_take (i := 1) (oi := ⟨some 56, .move (.tmp 13), 3, "ref.go:79", #[], none⟩) (v := ?_) rfl (by kernel_rfl) (by kernel_rfl) (by kernel_rfl) (fun _ _ _ h => h) (Or.inl ⟨by rfl, ?hyr1x1q8⟩) (by assumption) ?restr1x1q8
              case hyr1x1q8 => intro wq hSw; (go_simp); (try with_reducible rfl)
              try simp only [Act.put, List.setIfInBounds_toArray, List.set_cons_zero, List.set_cons_succ]
              refine wpAnyH_take (i := 2) (oi := ⟨some 57, .indexAddr 62 (.tmp 55) (.tmp 56), 0, "ref.go:79", #[⟨0, .data⟩, ⟨1, .data⟩], none⟩) (v := ?_) rfl (by kernel_rfl) (by kernel_rfl) (by kernel_rfl) (fun _ _ _ h => h) (Or.inl ⟨by rfl, ?hyr1x2q11⟩) (by assumption) ?restr1x2q11
              case hyr1x2q11 => intro wq hSw; (go_simp); (try with_reducible rfl)
              try simp only [Act.put, List.setIfInBounds_toArray, List.set_cons_zero, List.set_cons_succ]
              refine wpAnyH_take (i := 3) (oi := ⟨some 58, .fieldAddr 89 (.tmp 57) 0, 0, "ref.go:79", #[⟨2, .data⟩], none⟩) (v := ?_) rfl (by kernel_rfl) (by kernel_rfl) (by kernel_rfl) (fun _ _ _ h => h) (Or.inl ⟨by rfl, ?hyr1x3q14⟩) (by assumption) ?restr1x3q14
              case hyr1x3q14 => intro wq hSw; (go_simp); (try with_reducible rfl)
              try simp only [Act.put, List.setIfInBounds_toArray, List.set_cons_zero, List.set_cons_succ]
              refine wpAnyH_take (i := 4) (oi := ⟨some 59, .load 3 (.tmp 58), 3, "ref.go:79", #[⟨3, .data⟩], none⟩) (v := ?_) rfl (by kernel_rfl) (by kernel_rfl) (by kernel_rfl) (fun _ _ _ h => h) (Or.inl ⟨by rfl, ?hyr1x4q17⟩) (by assumption) ?restr1x4q17
              case hyr1x4q17 => intro wq hSw; (have cq := CM0.out wq hSw; go_simp); (try with_reducible rfl)
              try simp only [Act.put, List.setIfInBounds_toArray, List.set_cons_zero, List.set_cons_succ]
              refine wpAnyH_take (i := 5) (oi := ⟨some 60, .fieldAddr 45 (.tmp 10) 0, 0, "ref.go:79", #[], none⟩) (v := ?_) rfl (by kernel_rfl) (by kernel_rfl) (by kernel_rfl) (fun _ _ _ h => h) (Or.inl ⟨by rfl, ?hyr1x5q20⟩) (by assumption) ?restr1x5q20
              case hyr1x5q20 => intro wq hSw; (go_simp); (try with_reducible rfl)
              try simp only [Act.put, List.setIfInBounds_toArray, List.set_cons_zero, List.set_cons_succ]
              refine wpAnyH_take (i := 6) (oi := ⟨some 61, .load 3 (.tmp 60), 3, "ref.go:79", #[⟨5, .data⟩], none⟩) (v := ?_) rfl (by kernel_rfl) (by kernel_rfl) (by kernel_rfl) (fun _ _ _ h => h) (Or.inl ⟨by rfl, ?hyr1x6q23⟩) (by assumption) ?restr1x6q23
              case hyr1x6q23 => intro wq hSw; (have cq := QI.out wq hSw; go_simp); (try with_reducible rfl)
              try simp only [Act.put, List.setIfInBounds_toArray, List.set_cons_zero, List.set_cons_succ]
              refine wpAnyH_take (i := 7) (oi := ⟨some 62, .binOp .eql 3 (.tmp 59) (.tmp 61) 3, 4, "ref.go:79", #[⟨4, .data⟩, ⟨6, .data⟩], none⟩) (v := ?_) rfl (by kernel_rfl) (by kernel_rfl) (by kernel_rfl) (fun _ _ _ h => h) (Or.inl ⟨by rfl, ?hyr1x7q26⟩) (by assumption) ?restr1x7q26
              case hyr1x7q26 => intro wq hSw; (go_simp); (try with_reducible rfl)
              try simp only [Act.put, List.setIfInBounds_toArray, List.set_cons_zero, List.set_cons_succ]
              refine wpAnyH_done (by kernel_rfl) ?_ _
              have OD := OKh.out.nx hHeld
              have KD : Ex w13 wd := kch.out.nx hHeld
              have zd := KD.size
              have cm1 := CM1.out wd hHeld
              clear hHeld hDrew OKh
              by_cases he : m.1 = y.id
              · have de : (m.1 == y.id) = true := by simpa using he
                have T2 := Lib.hid (TT.out.trans (by rw [if_pos he] : T ++ (if m.1 = y.id then [m.2] else []) = T ++ [m.2]))
                clear he TT
                generalize [kl, kr] ++ T = W at OD hol TA
                go_wp2_with (at_builtin; go_loud (refine wpList_append_lit (enc := encI) wd rfl _ _ 22 rfl w13.heap.size 3 (.int .i64 0) 1 8 Tryz.underlying22 Tryz.infoI6 rfl (by omega) (by omega) _ _ OD rfl (m.2 : Int) _ rfl rfl (by simp [encI, Value.oneCell']) _ (by simp) rfl (by omega) zd _ ?_); intro v6 w6 own6 ch0 ch1 hz6)
                exact ⟨⟨k + 1, by omega, by go_num, by rw [T2.out, TA.out]; exact own6, Chg.trans KD ch1⟩, by simp [intOf]; omega⟩
              · have de : (m.1 == y.id) = false := by simpa using he
                have T2 := Lib.hid (TT.out.trans (by rw [if_neg he, List.append_nil] : T ++ (if m.1 = y.id then [m.2] else []) = T))
                have ODh := Lib.hid OD
                have KDh := Lib.hid KD
                clear he TT OD KD cm1
                go_wp2_with fail
                exact ⟨⟨k + 1, by omega, by go_num, by rw [T2.out]; exact ODh.out, KDh.out⟩, by simp [intOf]; omega⟩
            · obtain rfl : k = M.length := by omega
              rw [List.take_of_length_le (Nat.le_refl _)] at ok
              have hkc : ¬ ((M.length : Nat) : Int) < (M.length : Int) := by omega
              have htl : ([kl, kr] ++ toldN M y.id).length ≤ 2000002 := by have h1 := told_le M y.id; rw [List.length_append]; simp; omega
              generalize toldN M y.id = T at HRP ok htl
              obtain ⟨aK, cK, rfl, rK, _⟩ := ok.rd (fun _ => rfl)
              have SK : Hid (Sl 1 encI wc aK ([kl, kr] ++ T).length ([kl, kr] ++ T)) := Lib.hid (rK.mono (fun _ hk => hk.2))
              have B13c := Lib.hid (B13h.out.nx kc)
              have B14c := Lib.hid (B14h.out.nx kc)
              have FK := Lib.hid (fun (j : Nat) (r : PQ) (g : Nat) (hr : qz[j]? = some r) (hg : r.2.1.val.ownBlock = some g) => (show g < wk.heap.size from by obtain ⟨_, _, _, r2, _⟩ := OWN.out.getp hr; exact (r2.lt g hg).2))
              have zkc : wk.heap.size ≤ wc.heap.size := K13.out.size
              have zwc : w.heap.size ≤ wc.heap.size := Nat.le_trans hwi zkc
              have n1413 : ¬ g14 = g13 := by have := N14.out; omega
              have hg13c : g13 < wc.heap.size := Nat.lt_of_lt_of_le hg13l zc
              generalize [kl, kr] ++ T = W at SK HRP htl rK ok ⊢
              clear ok rK kc
              go_upto_region 19 with fail
              refine wp_region_held_drew (S := S19 g13 y.id wc) (by kernel_rfl) (⟨(Exb.refl g13 wc).drew, ((B13c.out.nx (Ex.refl wc).drew).cell 0 _ rfl)⟩) (fun hHeld => ?_)
              obtain ⟨wd, hwdx⟩ : ∃ wd : World, wd = World.drew wc := ⟨_, rfl⟩
              rw [← hwdx] at hHeld ⊢
              have hDrew : Ex wc wd := by rw [hwdx]; exact (Ex.refl wc).drew
              clear hwdx
              refine wpAnyH_take (i := 0) (oi := ⟨some 71, .fieldAddr 65 (.tmp 11) 0, 0, "ref.go:83", #[], none⟩) (v := ?_) rfl (by kernel_rfl) (by kernel_rfl) (by kernel_rfl) (fun _ _ _ h => h) (Or.inl ⟨by rfl, ?hyr2x0q5⟩) (by assumption) ?restr2x0q5
              case hyr2x0q5 => intro wq hSw; (go_simp); (try with_reducible rfl)
              try simp only [Act.put, List.setIfInBounds_toArray, List.set_cons_zero, List.set_cons_succ]
              refine wpAnyH_take (i := 1) (oi := ⟨some 72, .load 3 (.tmp 71), 3, "ref.go:83", #[⟨0, .data⟩], none⟩) (v := ?_) rfl (by kernel_rfl) (by kernel_rfl) (by kernel_rfl) (fun _ _ _ h => h) (Or.inl ⟨by rfl, ?hyr2x1q8⟩) (by assumption) ?restr2x1q8
              case hyr2x1q8 => intro wq hSw; (have cq := (B14c.out.nxb n1413 hSw.1).cell 0 _ rfl; go_simp); (try with_reducible rfl)
              try simp only [Act.put, List.setIfInBounds_toArray, List.set_cons_zero, List.set_cons_succ]
              refine wpAnyH_take (i := 2) (oi := ⟨some 73, .fieldAddr 65 (.tmp 11) 1, 0, "ref.go:83", #[{ on := 10, ground := Ground.gcOnly Departure.lateStores }], none⟩) (v := ?_) rfl (by kernel_rfl) (by kernel_rfl) (by kernel_rfl) (fun _ _ _ h => h) (Or.inl ⟨by rfl, ?hyr2x2q11⟩) (by assumption) ?restr2x2q11
              case hyr2x2q11 => intro wq hSw; (go_simp); (try with_reducible rfl)
              try simp only [Act.put, List.setIfInBounds_toArray, List.set_cons_zero, List.set_cons_succ]
              refine wpAnyH_take (i := 3) (oi := ⟨some 74, .load 3 (.tmp 73), 3, "ref.go:83", #[⟨2, .data⟩, { on := 10, ground := Ground.gcOnly Departure.lateStores }], none⟩) (v := ?_) rfl (by kernel_rfl) (by kernel_rfl) (by kernel_rfl) (fun _ _ _ h => h) (Or.inl ⟨by rfl, ?hyr2x3q14⟩) (by assumption) ?restr2x3q14
              case hyr2x3q14 => intro wq hSw; (have cq := (B14c.out.nxb n1413 hSw.1).cell 1 _ rfl; go_simp); (try with_reducible rfl)
              try simp only [Act.put, List.setIfInBounds_toArray, List.set_cons_zero, List.set_cons_succ]
              refine wpAnyH_take (i := 4) (oi := ⟨some 75, .move (.tmp 0), 23, "ref.go:83", #[], none⟩) (v := ?_) rfl (by kernel_rfl) (by kernel_rfl) (by kernel_rfl) (fun _ _ _ h => h) (Or.inl ⟨by rfl, ?hyr2x4q17⟩) (by assumption) ?restr2x4q17
              case hyr2x4q17 => intro wq hSw; (go_simp); (try with_reducible rfl)
              try simp only [Act.put, List.setIfInBounds_toArray, List.set_cons_zero, List.set_cons_succ]
              refine wpAnyH_take (i := 5) (oi := ⟨some 76, .move (.tmp 12), 22, "ref.go:83", #[], none⟩) (v := ?_) rfl (by kernel_rfl) (by kernel_rfl) (by kernel_rfl) (fun _ _ _ h => h) (Or.inl ⟨by rfl, ?hyr2x5q20⟩) (by assumption) ?restr2x5q20
              case hyr2x5q20 => intro wq hSw; (go_simp); (try with_reducible rfl)
              try simp only [Act.put, List.setIfInBounds_toArray, List.set_cons_zero, List.set_cons_succ]
              refine wpAnyH_take (i := 6) (oi := ⟨some 77, .fieldAddr 45 (.tmp 10) 0, 0, "ref.go:83", #[], none⟩) (v := ?_) rfl (by kernel_rfl) (by kernel_rfl) (by kernel_rfl) (fun _ _ _ h => h) (Or.inl ⟨by rfl, ?hyr2x6q23⟩) (by assumption) ?restr2x6q23
              case hyr2x6q23 => intro wq hSw; (go_simp); (try with_reducible rfl)
              try simp only [Act.put, List.setIfInBounds_toArray, List.set_cons_zero, List.set_cons_succ]
              refine wpAnyH_take (i := 7) (oi := ⟨some 78, .load 3 (.tmp 77), 3, "ref.go:83", #[⟨6, .data⟩], none⟩) (v := ?_) rfl (by kernel_rfl) (by kernel_rfl) (by kernel_rfl) (fun _ _ _ h => h) (Or.inl ⟨by rfl, ?hyr2x7q26⟩) (by assumption) ?restr2x7q26
              case hyr2x7q26 => intro wq hSw; (have cq := hSw.2; go_simp); (try with_reducible rfl)
              try simp only [Act.put, List.setIfInBounds_toArray, List.set_cons_zero, List.set_cons_succ]
              refine wpAnyH_take (i := 9) (oi := ⟨some 80, .fieldAddr 45 (.tmp 10) 2, 0, "ref.go:83", #[⟨0, .phase⟩, ⟨1, .phase⟩, { on := 2, ground := Ground.textOnly Departure.lateStores }, { on := 3, ground := Ground.textOnly Departure.lateStores }, { on := 4, ground := Ground.textOnly Departure.lateStores }, { on := 5, ground := Ground.textOnly Departure.lateStores }, ⟨6, .phase⟩, ⟨7, .phase⟩, { on := 8, ground := Ground.textOnly Departure.lateStoresUnsure }], none⟩) (v := ?_) rfl (by kernel_rfl) (by kernel_rfl) (by kernel_rfl) (fun _ _ _ h => h) (Or.inl ⟨by rfl, ?hyr2x9q29⟩) (by assumption) ?restr2x9q29
              case hyr2x9q29 => intro wq hSw; (go_simp); (try with_reducible rfl)
              try simp only [Act.put, List.setIfInBounds_toArray, List.set_cons_zero, List.set_cons_succ]
              refine wpAnyH_ready (rs := [8]) (by kernel_rfl) (by simp) ?_
              refine AllReadyH.cons (o := ⟨some 79, .call { callee := .value (.func 79), args := #[.tmp 75, .tmp 76, .tmp 78], argTypes := #[23, 22, 3] }, 22, "ref.go:83", #[⟨4, .data⟩, ⟨5, .data⟩, ⟨7, .data⟩], none⟩) rfl (fun K hK => ?_) AllReadyH.nil
              go_simp
              (with_reducible refine (ordered_r _ _ _ N _ _ _ W y.id _ (HS3.out.nx (K3.out.nx (KI.out.nx (K13.out.nx hDrew)))) hn (SK.out.nx hDrew) (by omega)).mono ?_)
              rintro e wz ⟨vK, rfl, oK, kk⟩
              obtain ⟨AK, CK, rfl, _, _, _, _⟩ := oK.slf (fun _ => rfl)
              have OKL := Lib.hid (fun g hg => Nat.le_trans hDrew.size (oK.lt g hg).1)
              replace oK := oK.base (Nat.le_trans zwc hDrew.size)
              have hE := hDrew.nx kk
              clear kk
              have BQ := B13c.out.nx hE
              have KZ := hE.b g13
              refine hK.out _ _ (⟨KZ, BQ.cell 0 _ rfl⟩) (fun hHeld => ?_)
              clear hK K
              try simp only [Act.put, List.setIfInBounds_toArray, List.set_cons_zero, List.set_cons_succ]
              refine wpAnyH_ready (rs := [10]) (by kernel_rfl) (by simp) ?_
              refine AllReadyH.cons (o := ⟨none, .store 3 (.tmp 80) (.tmp 72), 0, "ref.go:83", #[⟨9, .data⟩, ⟨1, .data⟩, ⟨8, .chain⟩, ⟨0, .phase⟩, ⟨1, .phase⟩, { on := 2, ground := Ground.textOnly Departure.lateStores }, { on := 3, ground := Ground.textOnly Departure.lateStores }, { on := 4, ground := Ground.textOnly Departure.lateStores }, { on := 5, ground := Ground.textOnly Departure.lateStores }, ⟨6, .phase⟩, ⟨7, .phase⟩, { on := 8, ground := Ground.textOnly Departure.lateStoresUnsure }], none⟩) rfl (fun K hK => ?_) AllReadyH.nil
              have cq := BQ.cell 2 _ rfl
              have fq := BQ.free 2
              go_simp
              clear cq fq
              replace oK := oK.put BQ (by decide) ((Exb.refl g13 _).setB (p := ⟨g13, 2, none⟩) (.int .i64 kl) rfl)
              replace KZ := KZ.setB (p := ⟨g13, 2, none⟩) (.int .i64 kl) rfl
              replace BQ := BQ.set 2 (.int .i64 kl)
              refine hK.out _ _ (⟨KZ, BQ.cell 0 _ rfl⟩) (fun hHeld => ?_)
              clear hK K
              try simp only [Act.put, List.setIfInBounds_toArray, List.set_cons_zero, List.set_cons_succ]
              refine wpAnyH_take (i := 11) (oi := ⟨some 81, .fieldAddr 45 (.tmp 10) 3, 0, "ref.go:83", #[⟨0, .phase⟩, ⟨1, .phase⟩, ⟨2, .phase⟩, ⟨3, .phase⟩, { on := 4, ground := Ground.textOnly Departure.lateStores }, { on := 5, ground := Ground.textOnly Departure.lateStores }, ⟨6, .phase⟩, ⟨7, .phase⟩, { on := 8, ground := Ground.textOnly Departure.lateStoresUnsure }, ⟨9, .phase⟩, ⟨10, .phase⟩], none⟩) (v := ?_) rfl (by kernel_rfl) (by kernel_rfl) (by kernel_rfl) (fun _ _ _ h => h) (Or.inl ⟨by rfl, ?hyr2x11q59⟩) (by assumption) ?restr2x11q59
              case hyr2x11q59 => intro wq hSw; (go_simp); (try with_reducible rfl)
              try simp only [Act.put, List.setIfInBounds_toArray, List.set_cons_zero, List.set_cons_succ]
              refine wpAnyH_ready (rs := [12]) (by kernel_rfl) (by simp) ?_
              refine AllReadyH.cons (o := ⟨none, .store 3 (.tmp 81) (.tmp 74), 0, "ref.go:83", #[⟨11, .data⟩, ⟨3, .data⟩, ⟨10, .chain⟩, ⟨0, .phase⟩, ⟨1, .phase⟩, ⟨2, .phase⟩, ⟨3, .phase⟩, { on := 4, ground := Ground.textOnly Departure.lateStores }, { on := 5, ground := Ground.textOnly Departure.lateStores }, ⟨6, .phase⟩, ⟨7, .phase⟩, { on := 8, ground := Ground.textOnly Departure.lateStoresUnsure }, ⟨9, .phase⟩, ⟨10, .phase⟩], none⟩) rfl (fun K hK => ?_) AllReadyH.nil
              have cq := BQ.cell 3 _ rfl
              have fq := BQ.free 3
              go_simp
              clear cq fq
              replace oK := oK.put BQ (by decide) ((Exb.refl g13 _).setB (p := ⟨g13, 3, none⟩) (.int .i64 kr) rfl)
              replace KZ := KZ.setB (p := ⟨g13, 3, none⟩) (.int .i64 kr) rfl
              replace BQ := BQ.set 3 (.int .i64 kr)
              refine hK.out _ _ (⟨KZ, BQ.cell 0 _ rfl⟩) (fun hHeld => ?_)
              clear hK K
              try simp only [Act.put, List.setIfInBounds_toArray, List.set_cons_zero, List.set_cons_succ]
              refine wpAnyH_take (i := 13) (oi := ⟨some 82, .fieldAddr 45 (.tmp 10) 1, 0, "ref.go:83", #[⟨0, .phase⟩, ⟨1, .phase⟩, ⟨2, .phase⟩, ⟨3, .phase⟩, ⟨4, .phase⟩, ⟨5, .phase⟩, ⟨6, .phase⟩, ⟨7, .phase⟩, ⟨8, .phase⟩, ⟨9, .phase⟩, ⟨10, .phase⟩, ⟨11, .phase⟩, ⟨12, .phase⟩], none⟩) (v := ?_) rfl (by kernel_rfl) (by kernel_rfl) (by kernel_rfl) (fun _ _ _ h => h) (Or.inl ⟨by rfl, ?hyr2x13q74⟩) (by assumption) ?restr2x13q74
              case hyr2x13q74 => intro wq hSw; (go_simp); (try with_reducible rfl)
              try simp only [Act.put, List.setIfInBounds_toArray, List.set_cons_zero, List.set_cons_succ]
              refine wpAnyH_ready (rs := [14]) (by kernel_rfl) (by simp) ?_
              refine AllReadyH.cons (o := ⟨none, .store 22 (.tmp 82) (.tmp 79), 0, "ref.go:83", #[⟨13, .data⟩, ⟨8, .data⟩, ⟨12, .chain⟩, ⟨0, .phase⟩, ⟨1, .phase⟩, ⟨2, .phase⟩, ⟨3, .phase⟩, ⟨4, .phase⟩, ⟨5, .phase⟩, ⟨6, .phase⟩, ⟨7, .phase⟩, ⟨8, .phase⟩, ⟨9, .phase⟩, ⟨10, .phase⟩, ⟨11, .phase⟩, ⟨12, .phase⟩], none⟩) rfl (fun K hK => ?_) AllReadyH.nil
              have cq := BQ.cell 1 _ rfl
              have fq := BQ.free 1
              go_simp
              clear cq fq
              replace oK := oK.put BQ (by decide) ((Exb.refl g13 _).setB (p := ⟨g13, 1, none⟩) (.slice AK (ordN N W y.id).length CK) rfl)
              replace KZ := KZ.setB (p := ⟨g13, 1, none⟩) (.slice AK (ordN N W y.id).length CK) rfl
              replace BQ := BQ.set 1 (.slice AK (ordN N W y.id).length CK)
              refine hK.out _ _ (⟨KZ, BQ.cell 0 _ rfl⟩) (fun hHeld => ?_)
              clear hK K
              try simp only [Act.put, List.setIfInBounds_toArray, List.set_cons_zero, List.set_cons_succ]
              refine wpAnyH_done (by kernel_rfl) ?_ _
              obtain ⟨wf, hwf⟩ : ∃ wf, wf = ((wz.setCell ⟨g13, 2, none⟩ (.int .i64 kl)).setCell ⟨g13, 3, none⟩ (.int .i64 kr)).setCell ⟨g13, 1, none⟩ (.slice AK (ordN N W y.id).length CK) := ⟨_, rfl⟩
              rw [← hwf] at BQ oK KZ ⊢
              clear hwf hHeld hDrew hE
              have KW := (Exl.nxb (b := g13) (w := wk) ⟨K13.out, zg13⟩ KZ).1
              have BF : Blk wf g13 [.int .i64 y.id, .slice AK (ordN N W y.id).length CK, .int .i64 kl, .int .i64 kr, .slice A4 n4 c4] 45 := BQ
              clear BQ KZ
              generalize ordN N W y.id = kn at HRP oK OKL BF ⊢
              have p0 := BF.cell 0 _ rfl
              have p1 := BF.cell 1 _ rfl
              have p2 := BF.cell 2 _ rfl
              have p3 := BF.cell 3 _ rfl
              have p4 := BF.cell 4 _ rfl
              have kl2 := Ex.new wf (.cells #[.int .i64 y.id, .slice AK kn.length CK, .int .i64 kl, .int .i64 kr, .slice A4 n4 c4] 45)
              have OP := OWN.out.nx (KW.nx kl2)
              have KN := Lib.hid (KW.nx kl2)
              have zn := Nat.le_trans hwi KN.out.size
              clear BF KW
              go_wp2_with (at_builtin; (refine wpList_append_W (enc := encQ) _ rfl _ _ 24 rfl w.heap.size 45 (.agg #[.int .i64 0, .slice none 0 0, .int .i64 0, .int .i64 0, .slice none 0 0]) 5 72 Tryz.underlying24 Tryz.infoPr rfl (by omega) (by omega) _ qz OP.row rfl _ 1 1 [((y.id, kl, kr), (AK, kn.length, CK), (A4, n4, c4))] (Sl.lit _ rfl rfl encQ_len rfl) encQ_len encQ_one rfl (by omega) (by omega) zn ?_); intro v9 w9 own9 ch0 ch1 hv)
              have RR := OP.push (p := ⟨y.id, kl, kr, kn, y.near⟩) (hk := (AK, kn.length, CK)) (hn := (A4, n4, c4)) (by decide) (by decide) own9 ch0 (oK.nx kl2) (ONR.out.nx KN.out) (fun j r g hr hg hv => by have h1 := FK.out j r g hr hg; have h2 := OKL.out g hv; omega) (fun j r g hr hg hv => FN.out j r g hr (by have := (List.getElem?_eq_some_iff.1 hr).1; omega) hg hv)
              have KF : Ex wi w9 := Chg.trans (KI.out.nx KN.out) (ch0.mono (fun k (hk : k < wi.heap.size) => ⟨Nat.lt_of_lt_of_le hk (KI.out.nx KN.out).size, fun hg => by have := HB.out k hg; omega⟩))
              refine ⟨⟨j2 + 1, _, by omega, by go_num, by rw [SN.out, HRP.out]; exact RR, fun g hg => ?_, fun i q hi => ?_, KF⟩, by simp [intOf]; omega⟩
              · rcases hv with h1 | h1
                · exact HB.out g (by rw [← h1]; exact hg)
                · exact Nat.le_trans (KI.out.nx KN.out).size (h1 g hg)
              · rcases Nat.lt_or_ge i qz.length with h1 | h1
                · rw [List.getElem?_append_left h1] at hi
                  exact HN.out i q hi
                · have h2 := (List.getElem?_eq_some_iff.1 hi).1
                  rw [List.length_append, List.length_singleton] at h2
                  obtain rfl : i = j2 := by omega
                  rw [List.getElem?_append_right (by omega), hqz, Nat.sub_self] at hi
                  simp only [List.getElem?_cons_zero, Option.some.injEq] at hi
                  subst hi
                  exact ⟨_, HQJ.out, rfl⟩
        · obtain rfl : j2 = Q.length := by omega
          rw [List.take_of_length_le (Nat.le_refl _)] at own
          have FO := Lib.hid own
          have FE := Lib.hid (K03.out.nx (K3.out.nx ki))
          clear own ki
          go_wp2_with fail
          go_ret
          exact ⟨_, qz, rfl, by rw [HR.out]; exact FO.out, FE.out⟩
end Go.Proofs.YtbnbjiddffihoaaGreatDoor

/- Exact and Rounds of the package linear. -/
namespace Go.Proofs.YtbnbjiddffihoaaGreatDoor
open Go.RowKit Go.Maps

theorem rounds16_p (n : Int) (w : World) : Calls Tryz.prog 45 #[.int .i64 n] w fun e w' => e = .returned (.int .i64 (max n 0)) ∧ w = w' := by
  go_enter Tryz.func45, Tryz.ntmps45
  go_wp2
  go_ret
  exact ⟨rfl, rfl⟩
theorem okL_eq (N : List Nd) (p : Pr) : okL N p = decide ((p.left, p.right) = (neighN N p.id 0).1) := by unfold okL; rw [show ((0 : Nat) : Int) = 0 from rfl]
def ExRel (N : List Nd) (Q : List Pr) (w : World) (i : Value) (wr : World) : Prop :=
  ∃ j : Nat, j ≤ Q.length ∧ i = .int .i64 j ∧ (∀ i p, i < j → Q[i]? = some p → okL N p = true) ∧ Ex w wr
set_option maxRecDepth 100000 in
set_option maxHeartbeats 4000000 in
theorem exact16_p (a : Option Addr) (n c : Nat) (N : List Nd) (a2 : Option Addr) (n2 c2 : Nat) (P : List Pr) (w : World) (h : Sl 3 encN w a n N) (hn : n ≤ 1000) (hc : n ≤ c) (hm : c ≤ maxLen) (hw : ∀ x ∈ N, x.word < 4294967296) (hT : TabG w) (h2 : PL w a2 n2 P) (hn2 : n2 ≤ 4000000000000000000) (hP : SmallP P) :
    Calls Tryz.prog 43 #[.slice a n c, .slice a2 n2 c2] w fun e w' => e = .returned (.bool (exactLB N P)) ∧ Ex w w' := by
  have HW := Lib.hid hw
  have EX := Ex.refl w
  clear hw
  go_enter Tryz.func43, Tryz.ntmps43
  go_wp2_with fail
  (with_reducible refine (check_p _ _ _ _ _ h (by omega) hc hm).mono ?_)
  rintro e w1 ⟨rfl, kk⟩
  replace h := h.nx kk
  replace h2 := h2.nx kk
  replace hT := hT.nx kk
  replace EX := EX.nx kk
  clear kk
  by_cases hck : checkN N = 0
  case neg =>
    have d1 : (checkN N != 0) = true := by simpa using hck
    have E0 : Hid (exactLB N P = false) := Lib.hid (by unfold exactLB; rw [show (checkN N == 0) = false by simpa using hck, Bool.false_and])
    have EX := Lib.hid EX
    clear h h2 hT hck
    go_wp2_with fail
    go_ret
    exact ⟨by rw [E0.out]; rfl, EX.out⟩
  have d1 : (checkN N != 0) = false := by simpa using hck
  have E0 : Hid (exactLB N P = (normalN N P).all (okL N)) := Lib.hid (by unfold exactLB; rw [show (checkN N == 0) = true by simpa using hck, Bool.true_and])
  clear hck
  go_wp2_with fail
  (with_reducible refine (normal_p _ _ _ N _ _ _ P _ h hn hc hm h2 hn2 hP).mono ?_)
  rintro e w3 ⟨v3, qs, rfl, OQ, kk⟩
  replace h := h.nx kk
  replace hT := hT.nx kk
  replace EX := EX.nx kk
  clear kk
  clear h2 hP
  have hQb : (normalN N P).length ≤ 1000 := by have h1 := (normal_le N P).1; have h2 := h.len; omega
  generalize normalN N P = Q at OQ E0 hQb
  obtain ⟨aQ, cQ, rfl, PQ0, _, _, _, _⟩ := OQ.pl
  have HPQ := Lib.hid PQ0
  have HS := Lib.hid h
  have HT := Lib.hid hT
  have EX := Lib.hid EX
  clear OQ PQ0 h hT
  go_wp2_with fail
  go_loopw [16] (fun i wr => ExRel N Q w3 i wr) (fun i _ => Q.length - (intOf i).toNat)
  case atStart => exact ⟨0, by omega, rfl, fun i p hi => by omega, Ex.refl _⟩
  case round =>
    obtain ⟨j, hj, rfl, hall, ki⟩ := hrel
    obtain ⟨wi, rfl⟩ : ∃ wi : World, wi = wr := ⟨_, rfl⟩
    have HALL := Lib.hid hall
    clear hall
    by_cases hjm : j < Q.length
    · obtain ⟨x3, o3, b1, m1, d1, b4, m4, d4, y, rfl, hx3, hy, e0, e1, e2, e3, e4, s1, s4⟩ := (HPQ.out.nx ki).rd hjm
      have HY := Lib.hid hy
      have HOK : Hid (okL N y = decide ((y.left, y.right) = (neighN N y.id 0).1)) := Lib.hid (okL_eq N y)
      have KI := Lib.hid ki
      clear hy s1 s4 ki
      have B6 := Blk.new wi [.int .i64 y.id, .slice b1 m1 d1, .int .i64 y.left, .int .i64 y.right, .slice b4 m4 d4] 45
      have kk := Ex.new wi (.cells #[.int .i64 y.id, .slice b1 m1 d1, .int .i64 y.left, .int .i64 y.right, .slice b4 m4 d4] 45)
      obtain ⟨w5, hw5⟩ : ∃ w5, w5 = wi.alloc (.cells #[.int .i64 y.id, .slice b1 m1 d1, .int .i64 y.left, .int .i64 y.right, .slice b4 m4 d4] 45) := ⟨_, rfl⟩
      obtain ⟨g6, hg6⟩ : ∃ g6, g6 = wi.heap.size := ⟨_, rfl⟩
      replace B6 : Blk w5 g6 [.int .i64 y.id, .slice b1 m1 d1, .int .i64 y.left, .int .i64 y.right, .slice b4 m4 d4] 45 := by rw [hw5, hg6]; exact B6
      rw [← hw5] at kk
      have Hw5 := Lib.hid hw5
      have Hg6 := Lib.hid hg6
      have K5 := Lib.hid (KI.out.nx kk)
      clear kk hw5 hg6
      go_upto_region 6 with fail
      rw [← Hg6.out, ← Hw5.out]
      clear Hg6 Hw5
      have q0 := B6.cell 0 _ rfl
      clear e0 e1 e2 e3 e4
      go_wp2_with fail
      (with_reducible refine (neigh_p _ _ _ N y.id 0 _ (HS.out.nx K5.out) hn hc hm HW.out (HT.out.nx K5.out)).mono ?_)
      rintro e w6 ⟨rfl, kk⟩
      replace B6 := B6.nx kk
      replace K5 := Lib.hid (K5.out.nx kk)
      clear q0 kk
      generalize neighN N y.id 0 = ng at HOK ⊢
      obtain ⟨⟨nl, nr⟩, okn⟩ := ng
      simp only at HOK ⊢
      have B7 := Blk.new w6 [.int .i64 nl, .int .i64 nr] 65
      have kk := Ex.new w6 (.cells #[.int .i64 nl, .int .i64 nr] 65)
      obtain ⟨w7, hw7⟩ : ∃ w7, w7 = w6.alloc (.cells #[.int .i64 nl, .int .i64 nr] 65) := ⟨_, rfl⟩
      obtain ⟨g7, hg7⟩ : ∃ g7, g7 = w6.heap.size := ⟨_, rfl⟩
      replace B7 : Blk w7 g7 [.int .i64 nl, .int .i64 nr] 65 := by rw [hw7, hg7]; exact B7
      rw [← hw7] at kk
      have Hw7 := Lib.hid hw7
      have Hg7 := Lib.hid hg7
      replace B6 := B6.nx kk
      replace K5 := Lib.hid (K5.out.nx kk)
      clear kk hw7 hg7
      go_upto_region 7 with fail
      rw [← Hg7.out, ← Hw7.out]
      clear Hg7 Hw7
      have q2 := B6.cell 2 _ rfl
      have q3 := B6.cell 3 _ rfl
      have r0 := B7.cell 0 _ rfl
      have r1 := B7.cell 1 _ rfl
      clear B6 B7
      by_cases hyes : y.left = nl ∧ y.right = nr
      · have HT1 : Hid (okL N y = true) := Lib.hid (by rw [HOK.out, hyes.1, hyes.2]; simp)
        rw [hyes.1] at q2
        rw [hyes.2] at q3
        clear hyes HOK
        go_wp2_with fail
        refine ⟨⟨j + 1, by omega, by go_num, fun i p hi hp => ?_, K5.out⟩, by simp [intOf]; omega⟩
        rcases Nat.lt_or_ge i j with h | h
        · exact HALL.out i p h hp
        · obtain rfl : i = j := by omega
          rw [Option.some.inj (hp.symm.trans HY.out)]
          exact HT1.out
      · have HT1 : Hid (okL N y = false) := Lib.hid (by
          rw [HOK.out]
          simp only [decide_eq_false_iff_not, Prod.mk.injEq]
          exact hyes)
        have FIN : Hid (exactLB N P = false) := Lib.hid (by
          rw [E0.out, List.all_eq_false]
          exact ⟨y, List.mem_of_getElem? HY.out, by rw [HT1.out]; decide⟩)
        have KF := Lib.hid (EX.out.nx K5.out)
        clear HOK
        by_cases hd : nl = y.left
        · have hd2 : ¬ nr = y.right := fun h => hyes ⟨hd.symm, h.symm⟩
          rw [hd] at r0
          clear hyes hd
          go_wp2_with fail
          go_ret
          exact ⟨by rw [FIN.out]; rfl, KF.out⟩
        · clear hyes
          go_wp2_with fail
          go_ret
          exact ⟨by rw [FIN.out]; rfl, KF.out⟩
    · obtain rfl : j = Q.length := by omega
      have FIN : Hid (exactLB N P = true) := Lib.hid (by
        rw [E0.out, List.all_eq_true]
        intro p hp
        obtain ⟨i, hi⟩ := List.mem_iff_getElem?.1 hp
        exact HALL.out i p (List.getElem?_eq_some_iff.1 hi).1 hi)
      have KF := Lib.hid (EX.out.nx ki)
      clear ki
      go_wp2_with fail
      go_ret
      exact ⟨by rw [FIN.out]; rfl, KF.out⟩
end Go.Proofs.YtbnbjiddffihoaaGreatDoor

/- Exact and Rounds of the reference 16. -/
namespace Go.Proofs.YtbnbjiddffihoaaGreatDoor
open Go.RowKit

theorem rounds16_r (n : Int) (w : World) : Calls Tryz.prog 46 #[.int .i64 n] w fun e w' => e = .returned (.int .i64 (max n 0)) ∧ w = w' := by
  go_enter Tryz.func46, Tryz.ntmps46
  go_wp2
  go_ret
  exact ⟨rfl, rfl⟩
set_option maxRecDepth 100000 in
set_option maxHeartbeats 4000000 in
theorem exact16_r (a : Option Addr) (n c : Nat) (N : List Nd) (a2 : Option Addr) (n2 c2 : Nat) (P : List Pr) (w : World) (h : Sl 3 encN w a n N) (hn : n ≤ 1000) (hw : ∀ x ∈ N, x.word < 4294967296) (h2 : PL w a2 n2 P) (hn2 : n2 ≤ 1000000) (hP : SmallP P) :
    Calls Tryz.prog 44 #[.slice a n c, .slice a2 n2 c2] w fun e w' => e = .returned (.bool (exactLB N P)) ∧ Ex w w' := by
  have HW := Lib.hid hw
  have EX := Ex.refl w
  clear hw
  go_enter Tryz.func44, Tryz.ntmps44
  go_wp2_with fail
  (with_reducible refine (is_r _ _ _ N _ h (by omega)).mono ?_)
  rintro e w1 ⟨rfl, kk⟩
  replace h := h.nx kk
  replace h2 := h2.nx kk
  replace EX := EX.nx kk
  clear kk
  cases hck : (checkN N == 0) with
  | false =>
    have E0 : Hid (exactLB N P = false) := Lib.hid (by unfold exactLB; rw [hck, Bool.false_and])
    have EX := Lib.hid EX
    clear h h2 hck
    go_wp2_with fail
    go_ret
    exact ⟨by rw [E0.out]; rfl, EX.out⟩
  | true =>
    have E0 : Hid (exactLB N P = (normalN N P).all (okL N)) := Lib.hid (by unfold exactLB; rw [hck, Bool.true_and])
    clear hck
    go_wp2_with fail
    (with_reducible refine (normal_r _ _ _ N _ _ _ P _ h hn h2 hn2 hP).mono ?_)
    rintro e w3 ⟨v3, qs, rfl, OQ, kk⟩
    replace h := h.nx kk
    replace EX := EX.nx kk
    clear kk
    clear h2 hP
    have hQb : (normalN N P).length ≤ 1000 := by have h1 := (normal_le N P).1; have h2 := h.len; omega
    generalize normalN N P = Q at OQ E0 hQb
    obtain ⟨aQ, cQ, rfl, PQ0, _, _, _, _⟩ := OQ.pl
    have HPQ := Lib.hid PQ0
    have HS := Lib.hid h
    have EX := Lib.hid EX
    clear OQ PQ0 h
    go_wp2_with fail
    go_loopw [6] (fun i wr => ExRel N Q w3 i wr) (fun i _ => Q.length - (intOf i).toNat)
    case atStart => exact ⟨0, by omega, rfl, fun i p hi => by omega, Ex.refl _⟩
    case round =>
      obtain ⟨j, hj, rfl, hall, ki⟩ := hrel
      obtain ⟨wi, rfl⟩ : ∃ wi : World, wi = wr := ⟨_, rfl⟩
      have HALL := Lib.hid hall
      clear hall
      by_cases hjm : j < Q.length
      · obtain ⟨x3, o3, b1, m1, d1, b4, m4, d4, y, rfl, hx3, hy, e0, e1, e2, e3, e4, s1, s4⟩ := (HPQ.out.nx ki).rd hjm
        have HY := Lib.hid hy
        have HOK : Hid (okL N y = decide ((y.left, y.right) = (neighN N y.id 0).1)) := Lib.hid (okL_eq N y)
        have EL : Hid (∀ wq, Ex wi wq → wq.cell? ⟨x3, o3 + j * 5 + 2, none⟩ = some (.int .i64 y.left)) := Lib.hid (fun wq kq => Chg.cellv kq (by simpa [Nat.add_assoc] using e2) hx3)
        have ER : Hid (∀ wq, Ex wi wq → wq.cell? ⟨x3, o3 + j * 5 + 3, none⟩ = some (.int .i64 y.right)) := Lib.hid (fun wq kq => Chg.cellv kq (by simpa [Nat.add_assoc] using e3) hx3)
        have KI := Lib.hid ki
        clear hy s1 s4 ki e1 e2 e3 e4 hx3
        go_wp2_with fail
        (with_reducible refine (neigh_r _ _ _ N y.id 0 _ (HS.out.nx KI.out) hn HW.out).mono ?_)
        rintro e w6 ⟨rfl, kk⟩
        have K6 := Lib.hid kk
        clear e0 kk
        generalize neighN N y.id 0 = ng at HOK ⊢
        obtain ⟨⟨nl, nr⟩, okn⟩ := ng
        simp only at HOK ⊢
        have B7 := Blk.new w6 [.int .i64 nl, .int .i64 nr] 65
        have kk := Ex.new w6 (.cells #[.int .i64 nl, .int .i64 nr] 65)
        obtain ⟨w7, hw7⟩ : ∃ w7, w7 = w6.alloc (.cells #[.int .i64 nl, .int .i64 nr] 65) := ⟨_, rfl⟩
        obtain ⟨g7, hg7⟩ : ∃ g7, g7 = w6.heap.size := ⟨_, rfl⟩
        replace B7 : Blk w7 g7 [.int .i64 nl, .int .i64 nr] 65 := by rw [hw7, hg7]; exact B7
        rw [← hw7] at kk
        have Hw7 := Lib.hid hw7
        have Hg7 := Lib.hid hg7
        have K7 := Lib.hid (K6.out.nx kk)
        clear kk hw7 hg7
        go_upto_region 8 with fail
        rw [← Hg7.out, ← Hw7.out]
        clear Hg7 Hw7
        have K5 := Lib.hid (KI.out.nx K7.out)
        have r0 := B7.cell 0 _ rfl
        have r1 := B7.cell 1 _ rfl
        have q2 := EL.out _ K7.out
        have q3 := ER.out _ K7.out
        clear B7
        by_cases hyes : y.left = nl ∧ y.right = nr
        · have HT1 : Hid (okL N y = true) := Lib.hid (by rw [HOK.out, hyes.1, hyes.2]; simp)
          rw [hyes.1] at q2
          rw [hyes.2] at q3
          have dl : (nl != nl) = false := by simp
          have dr : (nr != nr) = false := by simp
          clear hyes HOK
          go_quiet (fail)
          go_wp2_with fail
          refine ⟨⟨j + 1, by omega, by go_num, fun i p hi hp => ?_, K5.out.drewN _⟩, by simp [intOf]; omega⟩
          rcases Nat.lt_or_ge i j with h | h
          · exact HALL.out i p h hp
          · obtain rfl : i = j := by omega
            rw [Option.some.inj (hp.symm.trans HY.out)]
            exact HT1.out
        · have HT1 : Hid (okL N y = false) := Lib.hid (by
            rw [HOK.out]
            simp only [decide_eq_false_iff_not, Prod.mk.injEq]
            exact hyes)
          have FIN : Hid (exactLB N P = false) := Lib.hid (by
            rw [E0.out, List.all_eq_false]
            exact ⟨y, List.mem_of_getElem? HY.out, by rw [HT1.out]; decide⟩)
          have KF := Lib.hid (EX.out.nx K5.out)
          clear HOK
          by_cases hd : y.left = nl
          · have hd2 : ¬ y.right = nr := fun h => hyes ⟨hd, h⟩
            rw [hd] at q2
            have dl : (nl != nl) = false := by simp
            have dr : (y.right != nr) = true := by simpa using hd2
            clear hyes hd hd2
            go_quiet (fail)
            go_wp2_with fail
            go_ret
            exact ⟨by rw [FIN.out]; rfl, by first | exact KF.out | exact KF.out.drewN _⟩
          · have dl : (y.left != nl) = true := by simpa using hd
            clear hyes hd
            go_quiet (fail)
            go_wp2_with fail
            go_ret
            exact ⟨by rw [FIN.out]; rfl, by first | exact KF.out | exact KF.out.drewN _⟩
      · obtain rfl : j = Q.length := by omega
        have FIN : Hid (exactLB N P = true) := Lib.hid (by
          rw [E0.out, List.all_eq_true]
          intro p hp
          obtain ⟨i, hi⟩ := List.mem_iff_getElem?.1 hp
          exact HALL.out i p (List.getElem?_eq_some_iff.1 hi).1 hi)
        have KF := Lib.hid (EX.out.nx ki)
        clear ki
        go_wp2_with fail
        go_ret
        exact ⟨by rw [FIN.out]; rfl, by first | exact KF.out | exact KF.out.drewN _⟩
end Go.Proofs.YtbnbjiddffihoaaGreatDoor

/- SameInts of the reference at equal lists. -/
namespace Go.Proofs.YtbnbjiddffihoaaGreatDoor
open Go.RowKit

set_option maxHeartbeats 1000000 in
theorem sameints_x (a1 a2 : Option Addr) (n c1 c2 : Nat) (l : List Int) (w : World) (h1 : Sl 1 encI w a1 n l) (h2 : Sl 1 encI w a2 n l) (hn : n ≤ 1000000) :
    Calls Tryz.prog 64 #[.slice a1 n c1, .slice a2 n c2] w fun e w' => e = .returned (.bool true) ∧ Ex w w' := by
  go_enter Tryz.func64, Tryz.ntmps64
  go_wp2_with fail
  go_loopw [5] (fun i wr => ∃ k : Nat, k ≤ n ∧ i = .int .i64 k ∧ Ex w wr) (fun i _ => n - (intOf i).toNat)
  case atStart => exact ⟨0, by omega, rfl, Ex.refl _⟩
  case round =>
    obtain ⟨k, hk, rfl, kw⟩ := hrel
    obtain ⟨wo, rfl⟩ : ∃ wo : World, wo = wr := ⟨_, rfl⟩
    by_cases hlt : k < n
    · obtain ⟨x1, o1, y, rfl, hx1, hy, hc1⟩ := (h1.nx kw).at hlt
      obtain ⟨x2, o2, y', rfl, hx2, hy', hc2⟩ := (h2.nx kw).at hlt
      obtain rfl : y = y' := Option.some.inj (hy.symm.trans hy')
      have e0 : wo.cell? ⟨x1, o1 + k, none⟩ = some (.int .i64 y) := by simpa using hc1 0 _ rfl
      have f0 : wo.cell? ⟨x2, o2 + k, none⟩ = some (.int .i64 y) := by simpa using hc2 0 _ rfl
      clear hc1 hc2 hy hy' h1 h2
      go_wp2_with fail
      go_quiet (fail)
      go_wp2_with fail
      exact ⟨⟨k + 1, by omega, by go_num, kw.drewN _⟩, by simp [intOf]; omega⟩
    · obtain rfl : k = n := by omega
      clear h1 h2 hk hlt
      go_wp2_with fail
      go_ret
      exact ⟨rfl, kw⟩

end Go.Proofs.YtbnbjiddffihoaaGreatDoor

/- The sanity check of chapter 14 (printed by gen_l14.py). -/
namespace Go.Proofs.YtbnbjiddffihoaaGreatDoor
open Go.RowKit

end Go.Proofs.YtbnbjiddffihoaaGreatDoor

/- Rosters of at least one node, from the tape. -/
namespace Go.Proofs.YtbnbjiddffihoaaGreatDoor
open Go.RowKit

end Go.Proofs.YtbnbjiddffihoaaGreatDoor

/- The walk over RedundantGaps (printed by gen_l14.py). -/
namespace Go.Proofs.YtbnbjiddffihoaaGreatDoor
open Go.RowKit

end Go.Proofs.YtbnbjiddffihoaaGreatDoor

/- The walk over RedundantSurvives (printed by gen_l14.py). -/
namespace Go.Proofs.YtbnbjiddffihoaaGreatDoor
open Go.RowKit

end Go.Proofs.YtbnbjiddffihoaaGreatDoor

/- The walk over RedundantWidth (printed by gen_l14.py). -/
namespace Go.Proofs.YtbnbjiddffihoaaGreatDoor
open Go.RowKit

def KtRel (n : Nat) (w : World) (i : Value) (wr : World) : Prop := ∃ k : Nat, k ≤ n ∧ i = .int .i64 k ∧ Ex w wr
end Go.Proofs.YtbnbjiddffihoaaGreatDoor

/- Same of the reference of chapter 14, at equal lists. -/
namespace Go.Proofs.YtbnbjiddffihoaaGreatDoor
open Go.RowKit

set_option maxRecDepth 100000 in
set_option maxHeartbeats 16000000 in
theorem same14_r (a : Option Addr) (n c : Nat) (P : List Pr) (a2 : Option Addr) (c2 : Nat) (w : World) (h : PL w a n P) (h2 : PL w a2 n P) (hn : n ≤ 1000) (hP : ∀ p ∈ P, p.known.length ≤ 1000000 ∧ p.near.length ≤ 1000000) :
    Calls Tryz.prog 26 #[.slice a n c, .slice a2 n c2] w fun e w' => e = .returned (.bool true) ∧ Ex w w' := by
  have H1 := Lib.hid h
  have H2 := Lib.hid h2
  have HP := Lib.hid hP
  clear h h2 hP
  go_enter Tryz.func26, Tryz.ntmps26
  go_wp2_with fail
  go_loopw [5] (fun i wr => KtRel n w i wr) (fun i _ => n - (intOf i).toNat)
  case atStart => exact ⟨0, Nat.zero_le _, rfl, Ex.refl _⟩
  case round =>
    obtain ⟨k, hk, rfl, kw⟩ := hrel
    obtain ⟨wi, rfl⟩ : ∃ wi : World, wi = wr := ⟨_, rfl⟩
    have KW := Lib.hid kw
    clear kw
    by_cases hlt : k < n
    · obtain ⟨xp, op, b1, m1, d1, b4, m4, d4, y, rfl, hxp, hy, p0, p1, p2, p3, p4, s1, s4⟩ := (H1.out.nx KW.out).rd hlt
      obtain ⟨xq, oq, e1, u1, f1, e4, u4, f4, y', rfl, hxq, hy', q0, q1, q2, q3, q4, t1, t4⟩ := (H2.out.nx KW.out).rd hlt
      obtain rfl : y = y' := Option.some.inj (hy.symm.trans hy')
      obtain rfl : m1 = u1 := s1.len.symm.trans t1.len
      obtain rfl : m4 = u4 := s4.len.symm.trans t4.len
      have hyP := HP.out y (List.mem_of_getElem? hy)
      have hm1 : m1 ≤ 1000000 := by have := s1.len; omega
      have hm4 : m4 ≤ 1000000 := by have := s4.len; omega
      have A0 := Lib.hid (fun wq (k : Ex wi wq) => Chg.cellv k p0 hxp)
      have A1 := Lib.hid (fun wq (k : Ex wi wq) => Chg.cellv k p1 hxp)
      have A2 := Lib.hid (fun wq (k : Ex wi wq) => Chg.cellv k p2 hxp)
      have A3 := Lib.hid (fun wq (k : Ex wi wq) => Chg.cellv k p3 hxp)
      have A4 := Lib.hid (fun wq (k : Ex wi wq) => Chg.cellv k p4 hxp)
      have B0 := Lib.hid (fun wq (k : Ex wi wq) => Chg.cellv k q0 hxq)
      have B1 := Lib.hid (fun wq (k : Ex wi wq) => Chg.cellv k q1 hxq)
      have B2 := Lib.hid (fun wq (k : Ex wi wq) => Chg.cellv k q2 hxq)
      have B3 := Lib.hid (fun wq (k : Ex wi wq) => Chg.cellv k q3 hxq)
      have B4 := Lib.hid (fun wq (k : Ex wi wq) => Chg.cellv k q4 hxq)
      have S1 := Lib.hid s1
      have S4 := Lib.hid s4
      have T1 := Lib.hid t1
      have T4 := Lib.hid t4
      clear p0 p1 p2 p3 p4 q0 q1 q2 q3 q4 s1 s4 t1 t4 hxp hxq hy hy' hyP
      go_upto_region 6 with fail
      refine wp_region_held_drew (S := Ex wi) (by kernel_rfl) ((Ex.refl wi).drew) (fun hHeld => ?_)
      obtain ⟨wd, hwdx⟩ : ∃ wd : World, wd = World.drew wi := ⟨_, rfl⟩
      rw [← hwdx] at hHeld ⊢
      have hDrew : Ex wi wd := by rw [hwdx]; exact (Ex.refl wi).drew
      clear hwdx
      refine wpAnyH_take (i := 0) (oi := ⟨some 18, .move (.tmp 0), 24, "ref.go:165", #[], none⟩) (v := ?_) rfl (by kernel_rfl) (by kernel_rfl) (by kernel_rfl) (fun _ _ _ h => h) (Or.inl ⟨by rfl, ?hyr1x0q5⟩) (by assumption) ?restr1x0q5
      case hyr1x0q5 => intro wq hSw; (go_simp); (try with_reducible rfl)
      try simp only [Act.put, List.setIfInBounds_toArray, List.set_cons_zero, List.set_cons_succ]
      refine wpAnyH_take (i := 1) (oi := ⟨some 19, .move (.tmp 5), 3, "ref.go:165", #[], none⟩) (v := ?_) rfl (by kernel_rfl) (by kernel_rfl) (by kernel_rfl) (fun _ _ _ h => h) (Or.inl ⟨by rfl, ?hyr1x1q8⟩) (by assumption) ?restr1x1q8
      case hyr1x1q8 => intro wq hSw; (go_simp); (try with_reducible rfl)
      try simp only [Act.put, List.setIfInBounds_toArray, List.set_cons_zero, List.set_cons_succ]
      refine wpAnyH_take (i := 2) (oi := ⟨some 20, .indexAddr 24 (.tmp 18) (.tmp 19), 0, "ref.go:165", #[⟨0, .data⟩, ⟨1, .data⟩], none⟩) (v := ?_) rfl (by kernel_rfl) (by kernel_rfl) (by kernel_rfl) (fun _ _ _ h => h) (Or.inl ⟨by rfl, ?hyr1x2q11⟩) (by assumption) ?restr1x2q11
      case hyr1x2q11 => intro wq hSw; (go_simp); (try with_reducible rfl)
      try simp only [Act.put, List.setIfInBounds_toArray, List.set_cons_zero, List.set_cons_succ]
      refine wpAnyH_take (i := 3) (oi := ⟨some 21, .fieldAddr 45 (.tmp 20) 0, 0, "ref.go:165", #[⟨2, .data⟩], none⟩) (v := ?_) rfl (by kernel_rfl) (by kernel_rfl) (by kernel_rfl) (fun _ _ _ h => h) (Or.inl ⟨by rfl, ?hyr1x3q14⟩) (by assumption) ?restr1x3q14
      case hyr1x3q14 => intro wq hSw; (go_simp); (try with_reducible rfl)
      try simp only [Act.put, List.setIfInBounds_toArray, List.set_cons_zero, List.set_cons_succ]
      refine wpAnyH_take (i := 4) (oi := ⟨some 22, .load 3 (.tmp 21), 3, "ref.go:165", #[⟨3, .data⟩], none⟩) (v := ?_) rfl (by kernel_rfl) (by kernel_rfl) (by kernel_rfl) (fun _ _ _ h => h) (Or.inl ⟨by rfl, ?hyr1x4q17⟩) (by assumption) ?restr1x4q17
      case hyr1x4q17 => intro wq hSw; (have cq := A0.out wq hSw; go_simp); (try with_reducible rfl)
      try simp only [Act.put, List.setIfInBounds_toArray, List.set_cons_zero, List.set_cons_succ]
      refine wpAnyH_take (i := 5) (oi := ⟨some 23, .move (.tmp 1), 24, "ref.go:165", #[], none⟩) (v := ?_) rfl (by kernel_rfl) (by kernel_rfl) (by kernel_rfl) (fun _ _ _ h => h) (Or.inl ⟨by rfl, ?hyr1x5q20⟩) (by assumption) ?restr1x5q20
      case hyr1x5q20 => intro wq hSw; (go_simp); (try with_reducible rfl)
      try simp only [Act.put, List.setIfInBounds_toArray, List.set_cons_zero, List.set_cons_succ]
      refine wpAnyH_take (i := 6) (oi := ⟨some 24, .move (.tmp 5), 3, "ref.go:165", #[], none⟩) (v := ?_) rfl (by kernel_rfl) (by kernel_rfl) (by kernel_rfl) (fun _ _ _ h => h) (Or.inl ⟨by rfl, ?hyr1x6q23⟩) (by assumption) ?restr1x6q23
      case hyr1x6q23 => intro wq hSw; (go_simp); (try with_reducible rfl)
      try simp only [Act.put, List.setIfInBounds_toArray, List.set_cons_zero, List.set_cons_succ]
      refine wpAnyH_take (i := 7) (oi := ⟨some 25, .indexAddr 24 (.tmp 23) (.tmp 24), 0, "ref.go:165", #[⟨5, .data⟩, ⟨6, .data⟩], none⟩) (v := ?_) rfl (by kernel_rfl) (by kernel_rfl) (by kernel_rfl) (fun _ _ _ h => h) (Or.inl ⟨by rfl, ?hyr1x7q26⟩) (by assumption) ?restr1x7q26
      case hyr1x7q26 => intro wq hSw; (go_simp); (try with_reducible rfl)
      try simp only [Act.put, List.setIfInBounds_toArray, List.set_cons_zero, List.set_cons_succ]
      refine wpAnyH_take (i := 8) (oi := ⟨some 26, .fieldAddr 45 (.tmp 25) 0, 0, "ref.go:165", #[⟨7, .data⟩], none⟩) (v := ?_) rfl (by kernel_rfl) (by kernel_rfl) (by kernel_rfl) (fun _ _ _ h => h) (Or.inl ⟨by rfl, ?hyr1x8q29⟩) (by assumption) ?restr1x8q29
      case hyr1x8q29 => intro wq hSw; (go_simp); (try with_reducible rfl)
      try simp only [Act.put, List.setIfInBounds_toArray, List.set_cons_zero, List.set_cons_succ]
      refine wpAnyH_take (i := 9) (oi := ⟨some 27, .load 3 (.tmp 26), 3, "ref.go:165", #[⟨8, .data⟩], none⟩) (v := ?_) rfl (by kernel_rfl) (by kernel_rfl) (by kernel_rfl) (fun _ _ _ h => h) (Or.inl ⟨by rfl, ?hyr1x9q32⟩) (by assumption) ?restr1x9q32
      case hyr1x9q32 => intro wq hSw; (have cq := B0.out wq hSw; go_simp); (try with_reducible rfl)
      try simp only [Act.put, List.setIfInBounds_toArray, List.set_cons_zero, List.set_cons_succ]
      refine wpAnyH_take (i := 10) (oi := ⟨some 28, .binOp .neq 3 (.tmp 22) (.tmp 27) 3, 4, "ref.go:165", #[⟨4, .data⟩, ⟨9, .data⟩], none⟩) (v := ?_) rfl (by kernel_rfl) (by kernel_rfl) (by kernel_rfl) (fun _ _ _ h => h) (Or.inl ⟨by rfl, ?hyr1x10q35⟩) (by assumption) ?restr1x10q35
      case hyr1x10q35 => intro wq hSw; (go_simp); (try with_reducible rfl)
      try simp only [Act.put, List.setIfInBounds_toArray, List.set_cons_zero, List.set_cons_succ]
      refine wpAnyH_take (i := 11) (oi := ⟨some 29, .move (.tmp 28), 4, "ref.go:165", #[⟨10, .data⟩], none⟩) (v := ?_) rfl (by kernel_rfl) (by kernel_rfl) (by kernel_rfl) (fun _ _ _ h => h) (Or.inl ⟨by rfl, ?hyr1x11q38⟩) (by assumption) ?restr1x11q38
      case hyr1x11q38 => intro wq hSw; (go_simp); (try with_reducible rfl)
      try simp only [Act.put, List.setIfInBounds_toArray, List.set_cons_zero, List.set_cons_succ]
      refine wpAnyH_take (i := 12) (oi := ⟨some 30, .move (.tmp 0), 24, "ref.go:165", #[⟨11, .guard⟩], some (11, false)⟩) (v := ?_) rfl (by kernel_rfl) (by kernel_rfl) (by kernel_rfl) (fun _ _ _ h => h) (Or.inl ⟨by rfl, ?hyr1x12q41⟩) (by assumption) ?restr1x12q41
      case hyr1x12q41 => intro wq hSw; (go_simp); (try with_reducible rfl)
      try simp only [Act.put, List.setIfInBounds_toArray, List.set_cons_zero, List.set_cons_succ]
      refine wpAnyH_take (i := 13) (oi := ⟨some 31, .move (.tmp 5), 3, "ref.go:165", #[⟨11, .guard⟩], some (11, false)⟩) (v := ?_) rfl (by kernel_rfl) (by kernel_rfl) (by kernel_rfl) (fun _ _ _ h => h) (Or.inl ⟨by rfl, ?hyr1x13q44⟩) (by assumption) ?restr1x13q44
      case hyr1x13q44 => intro wq hSw; (go_simp); (try with_reducible rfl)
      try simp only [Act.put, List.setIfInBounds_toArray, List.set_cons_zero, List.set_cons_succ]
      refine wpAnyH_take (i := 14) (oi := ⟨some 32, .indexAddr 24 (.tmp 30) (.tmp 31), 0, "ref.go:165", #[⟨12, .data⟩, ⟨13, .data⟩, ⟨11, .guard⟩], some (11, false)⟩) (v := ?_) rfl (by kernel_rfl) (by kernel_rfl) (by kernel_rfl) (fun _ _ _ h => h) (Or.inl ⟨by rfl, ?hyr1x14q47⟩) (by assumption) ?restr1x14q47
      case hyr1x14q47 => intro wq hSw; (go_simp); (try with_reducible rfl)
      try simp only [Act.put, List.setIfInBounds_toArray, List.set_cons_zero, List.set_cons_succ]
      refine wpAnyH_take (i := 15) (oi := ⟨some 33, .fieldAddr 45 (.tmp 32) 2, 0, "ref.go:165", #[⟨14, .data⟩, ⟨11, .guard⟩], some (11, false)⟩) (v := ?_) rfl (by kernel_rfl) (by kernel_rfl) (by kernel_rfl) (fun _ _ _ h => h) (Or.inl ⟨by rfl, ?hyr1x15q50⟩) (by assumption) ?restr1x15q50
      case hyr1x15q50 => intro wq hSw; (go_simp); (try with_reducible rfl)
      try simp only [Act.put, List.setIfInBounds_toArray, List.set_cons_zero, List.set_cons_succ]
      refine wpAnyH_take (i := 16) (oi := ⟨some 34, .load 3 (.tmp 33), 3, "ref.go:165", #[⟨15, .data⟩, ⟨11, .guard⟩], some (11, false)⟩) (v := ?_) rfl (by kernel_rfl) (by kernel_rfl) (by kernel_rfl) (fun _ _ _ h => h) (Or.inl ⟨by rfl, ?hyr1x16q53⟩) (by assumption) ?restr1x16q53
      case hyr1x16q53 => intro wq hSw; (have cq := A2.out wq hSw; go_simp); (try with_reducible rfl)
      try simp only [Act.put, List.setIfInBounds_toArray, List.set_cons_zero, List.set_cons_succ]
      refine wpAnyH_take (i := 17) (oi := ⟨some 35, .move (.tmp 1), 24, "ref.go:165", #[⟨11, .guard⟩], some (11, false)⟩) (v := ?_) rfl (by kernel_rfl) (by kernel_rfl) (by kernel_rfl) (fun _ _ _ h => h) (Or.inl ⟨by rfl, ?hyr1x17q56⟩) (by assumption) ?restr1x17q56
      case hyr1x17q56 => intro wq hSw; (go_simp); (try with_reducible rfl)
      try simp only [Act.put, List.setIfInBounds_toArray, List.set_cons_zero, List.set_cons_succ]
      refine wpAnyH_take (i := 18) (oi := ⟨some 36, .move (.tmp 5), 3, "ref.go:165", #[⟨11, .guard⟩], some (11, false)⟩) (v := ?_) rfl (by kernel_rfl) (by kernel_rfl) (by kernel_rfl) (fun _ _ _ h => h) (Or.inl ⟨by rfl, ?hyr1x18q59⟩) (by assumption) ?restr1x18q59
      case hyr1x18q59 => intro wq hSw; (go_simp); (try with_reducible rfl)
      try simp only [Act.put, List.setIfInBounds_toArray, List.set_cons_zero, List.set_cons_succ]
      refine wpAnyH_take (i := 19) (oi := ⟨some 37, .indexAddr 24 (.tmp 35) (.tmp 36), 0, "ref.go:165", #[⟨17, .data⟩, ⟨18, .data⟩, ⟨11, .guard⟩], some (11, false)⟩) (v := ?_) rfl (by kernel_rfl) (by kernel_rfl) (by kernel_rfl) (fun _ _ _ h => h) (Or.inl ⟨by rfl, ?hyr1x19q62⟩) (by assumption) ?restr1x19q62
      case hyr1x19q62 => intro wq hSw; (go_simp); (try with_reducible rfl)
      try simp only [Act.put, List.setIfInBounds_toArray, List.set_cons_zero, List.set_cons_succ]
      refine wpAnyH_take (i := 20) (oi := ⟨some 38, .fieldAddr 45 (.tmp 37) 2, 0, "ref.go:165", #[⟨19, .data⟩, ⟨11, .guard⟩], some (11, false)⟩) (v := ?_) rfl (by kernel_rfl) (by kernel_rfl) (by kernel_rfl) (fun _ _ _ h => h) (Or.inl ⟨by rfl, ?hyr1x20q65⟩) (by assumption) ?restr1x20q65
      case hyr1x20q65 => intro wq hSw; (go_simp); (try with_reducible rfl)
      try simp only [Act.put, List.setIfInBounds_toArray, List.set_cons_zero, List.set_cons_succ]
      refine wpAnyH_take (i := 21) (oi := ⟨some 39, .load 3 (.tmp 38), 3, "ref.go:165", #[⟨20, .data⟩, ⟨11, .guard⟩], some (11, false)⟩) (v := ?_) rfl (by kernel_rfl) (by kernel_rfl) (by kernel_rfl) (fun _ _ _ h => h) (Or.inl ⟨by rfl, ?hyr1x21q68⟩) (by assumption) ?restr1x21q68
      case hyr1x21q68 => intro wq hSw; (have cq := B2.out wq hSw; go_simp); (try with_reducible rfl)
      try simp only [Act.put, List.setIfInBounds_toArray, List.set_cons_zero, List.set_cons_succ]
      refine wpAnyH_take (i := 22) (oi := ⟨some 40, .binOp .neq 3 (.tmp 34) (.tmp 39) 3, 4, "ref.go:165", #[⟨16, .data⟩, ⟨21, .data⟩, ⟨11, .guard⟩], some (11, false)⟩) (v := ?_) rfl (by kernel_rfl) (by kernel_rfl) (by kernel_rfl) (fun _ _ _ h => h) (Or.inl ⟨by rfl, ?hyr1x22q71⟩) (by assumption) ?restr1x22q71
      case hyr1x22q71 => intro wq hSw; (go_simp); (try with_reducible rfl)
      try simp only [Act.put, List.setIfInBounds_toArray, List.set_cons_zero, List.set_cons_succ]
      refine wpAnyH_take (i := 23) (oi := ⟨some 41, .pick (.tmp 29) (.const (.bool true)) (.tmp 40), 4, "ref.go:165", #[⟨11, .data⟩, ⟨22, .data⟩], none⟩) (v := ?_) rfl (by kernel_rfl) (by kernel_rfl) (by kernel_rfl) (fun _ _ _ h => h) (Or.inl ⟨by rfl, ?hyr1x23q74⟩) (by assumption) ?restr1x23q74
      case hyr1x23q74 => intro wq hSw; (go_simp); (try with_reducible rfl)
      try simp only [Act.put, List.setIfInBounds_toArray, List.set_cons_zero, List.set_cons_succ]
      refine wpAnyH_take (i := 24) (oi := ⟨some 42, .move (.tmp 41), 4, "ref.go:165", #[⟨23, .data⟩, ⟨11, .chain⟩], none⟩) (v := ?_) rfl (by kernel_rfl) (by kernel_rfl) (by kernel_rfl) (fun _ _ _ h => h) (Or.inl ⟨by rfl, ?hyr1x24q77⟩) (by assumption) ?restr1x24q77
      case hyr1x24q77 => intro wq hSw; (go_simp); (try with_reducible rfl)
      try simp only [Act.put, List.setIfInBounds_toArray, List.set_cons_zero, List.set_cons_succ]
      refine wpAnyH_take (i := 25) (oi := ⟨some 43, .move (.tmp 0), 24, "ref.go:165", #[⟨24, .guard⟩], some (24, false)⟩) (v := ?_) rfl (by kernel_rfl) (by kernel_rfl) (by kernel_rfl) (fun _ _ _ h => h) (Or.inl ⟨by rfl, ?hyr1x25q80⟩) (by assumption) ?restr1x25q80
      case hyr1x25q80 => intro wq hSw; (go_simp); (try with_reducible rfl)
      try simp only [Act.put, List.setIfInBounds_toArray, List.set_cons_zero, List.set_cons_succ]
      refine wpAnyH_take (i := 26) (oi := ⟨some 44, .move (.tmp 5), 3, "ref.go:165", #[⟨24, .guard⟩], some (24, false)⟩) (v := ?_) rfl (by kernel_rfl) (by kernel_rfl) (by kernel_rfl) (fun _ _ _ h => h) (Or.inl ⟨by rfl, ?hyr1x26q83⟩) (by assumption) ?restr1x26q83
      case hyr1x26q83 => intro wq hSw; (go_simp); (try with_reducible rfl)
      try simp only [Act.put, List.setIfInBounds_toArray, List.set_cons_zero, List.set_cons_succ]
      refine wpAnyH_take (i := 27) (oi := ⟨some 45, .indexAddr 24 (.tmp 43) (.tmp 44), 0, "ref.go:165", #[⟨25, .data⟩, ⟨26, .data⟩, ⟨24, .guard⟩], some (24, false)⟩) (v := ?_) rfl (by kernel_rfl) (by kernel_rfl) (by kernel_rfl) (fun _ _ _ h => h) (Or.inl ⟨by rfl, ?hyr1x27q86⟩) (by assumption) ?restr1x27q86
      case hyr1x27q86 => intro wq hSw; (go_simp); (try with_reducible rfl)
      try simp only [Act.put, List.setIfInBounds_toArray, List.set_cons_zero, List.set_cons_succ]
      refine wpAnyH_take (i := 28) (oi := ⟨some 46, .fieldAddr 45 (.tmp 45) 3, 0, "ref.go:165", #[⟨27, .data⟩, ⟨24, .guard⟩], some (24, false)⟩) (v := ?_) rfl (by kernel_rfl) (by kernel_rfl) (by kernel_rfl) (fun _ _ _ h => h) (Or.inl ⟨by rfl, ?hyr1x28q89⟩) (by assumption) ?restr1x28q89
      case hyr1x28q89 => intro wq hSw; (go_simp); (try with_reducible rfl)
      try simp only [Act.put, List.setIfInBounds_toArray, List.set_cons_zero, List.set_cons_succ]
      refine wpAnyH_take (i := 29) (oi := ⟨some 47, .load 3 (.tmp 46), 3, "ref.go:165", #[⟨28, .data⟩, ⟨24, .guard⟩], some (24, false)⟩) (v := ?_) rfl (by kernel_rfl) (by kernel_rfl) (by kernel_rfl) (fun _ _ _ h => h) (Or.inl ⟨by rfl, ?hyr1x29q92⟩) (by assumption) ?restr1x29q92
      case hyr1x29q92 => intro wq hSw; (have cq := A3.out wq hSw; go_simp); (try with_reducible rfl)
      try simp only [Act.put, List.setIfInBounds_toArray, List.set_cons_zero, List.set_cons_succ]
      refine wpAnyH_take (i := 30) (oi := ⟨some 48, .move (.tmp 1), 24, "ref.go:165", #[⟨24, .guard⟩], some (24, false)⟩) (v := ?_) rfl (by kernel_rfl) (by kernel_rfl) (by kernel_rfl) (fun _ _ _ h => h) (Or.inl ⟨by rfl, ?hyr1x30q95⟩) (by assumption) ?restr1x30q95
      case hyr1x30q95 => intro wq hSw; (go_simp); (try with_reducible rfl)
      try simp only [Act.put, List.setIfInBounds_toArray, List.set_cons_zero, List.set_cons_succ]
      refine wpAnyH_take (i := 31) (oi := ⟨some 49, .move (.tmp 5), 3, "ref.go:165", #[⟨24, .guard⟩], some (24, false)⟩) (v := ?_) rfl (by kernel_rfl) (by kernel_rfl) (by kernel_rfl) (fun _ _ _ h => h) (Or.inl ⟨by rfl, ?hyr1x31q98⟩) (by assumption) ?restr1x31q98
      case hyr1x31q98 => intro wq hSw; (go_simp); (try with_reducible rfl)
      try simp only [Act.put, List.setIfInBounds_toArray, List.set_cons_zero, List.set_cons_succ]
      refine wpAnyH_take (i := 32) (oi := ⟨some 50, .indexAddr 24 (.tmp 48) (.tmp 49), 0, "ref.go:165", #[⟨30, .data⟩, ⟨31, .data⟩, ⟨24, .guard⟩], some (24, false)⟩) (v := ?_) rfl (by kernel_rfl) (by kernel_rfl) (by kernel_rfl) (fun _ _ _ h => h) (Or.inl ⟨by rfl, ?hyr1x32q101⟩) (by assumption) ?restr1x32q101
      case hyr1x32q101 => intro wq hSw; (go_simp); (try with_reducible rfl)
      try simp only [Act.put, List.setIfInBounds_toArray, List.set_cons_zero, List.set_cons_succ]
      refine wpAnyH_take (i := 33) (oi := ⟨some 51, .fieldAddr 45 (.tmp 50) 3, 0, "ref.go:165", #[⟨32, .data⟩, ⟨24, .guard⟩], some (24, false)⟩) (v := ?_) rfl (by kernel_rfl) (by kernel_rfl) (by kernel_rfl) (fun _ _ _ h => h) (Or.inl ⟨by rfl, ?hyr1x33q104⟩) (by assumption) ?restr1x33q104
      case hyr1x33q104 => intro wq hSw; (go_simp); (try with_reducible rfl)
      try simp only [Act.put, List.setIfInBounds_toArray, List.set_cons_zero, List.set_cons_succ]
      refine wpAnyH_take (i := 34) (oi := ⟨some 52, .load 3 (.tmp 51), 3, "ref.go:165", #[⟨33, .data⟩, ⟨24, .guard⟩], some (24, false)⟩) (v := ?_) rfl (by kernel_rfl) (by kernel_rfl) (by kernel_rfl) (fun _ _ _ h => h) (Or.inl ⟨by rfl, ?hyr1x34q107⟩) (by assumption) ?restr1x34q107
      case hyr1x34q107 => intro wq hSw; (have cq := B3.out wq hSw; go_simp); (try with_reducible rfl)
      try simp only [Act.put, List.setIfInBounds_toArray, List.set_cons_zero, List.set_cons_succ]
      refine wpAnyH_take (i := 35) (oi := ⟨some 53, .binOp .neq 3 (.tmp 47) (.tmp 52) 3, 4, "ref.go:165", #[⟨29, .data⟩, ⟨34, .data⟩, ⟨24, .guard⟩], some (24, false)⟩) (v := ?_) rfl (by kernel_rfl) (by kernel_rfl) (by kernel_rfl) (fun _ _ _ h => h) (Or.inl ⟨by rfl, ?hyr1x35q110⟩) (by assumption) ?restr1x35q110
      case hyr1x35q110 => intro wq hSw; (go_simp); (try with_reducible rfl)
      try simp only [Act.put, List.setIfInBounds_toArray, List.set_cons_zero, List.set_cons_succ]
      refine wpAnyH_take (i := 36) (oi := ⟨some 54, .pick (.tmp 42) (.const (.bool true)) (.tmp 53), 4, "ref.go:165", #[⟨24, .data⟩, ⟨35, .data⟩], none⟩) (v := ?_) rfl (by kernel_rfl) (by kernel_rfl) (by kernel_rfl) (fun _ _ _ h => h) (Or.inl ⟨by rfl, ?hyr1x36q113⟩) (by assumption) ?restr1x36q113
      case hyr1x36q113 => intro wq hSw; (go_simp); (try with_reducible rfl)
      try simp only [Act.put, List.setIfInBounds_toArray, List.set_cons_zero, List.set_cons_succ]
      refine wpAnyH_take (i := 37) (oi := ⟨some 55, .move (.tmp 54), 4, "ref.go:165", #[⟨36, .data⟩, ⟨24, .chain⟩], none⟩) (v := ?_) rfl (by kernel_rfl) (by kernel_rfl) (by kernel_rfl) (fun _ _ _ h => h) (Or.inl ⟨by rfl, ?hyr1x37q116⟩) (by assumption) ?restr1x37q116
      case hyr1x37q116 => intro wq hSw; (go_simp); (try with_reducible rfl)
      try simp only [Act.put, List.setIfInBounds_toArray, List.set_cons_zero, List.set_cons_succ]
      refine wpAnyH_take (i := 38) (oi := ⟨some 56, .move (.tmp 0), 24, "ref.go:165", #[⟨37, .guard⟩], some (37, false)⟩) (v := ?_) rfl (by kernel_rfl) (by kernel_rfl) (by kernel_rfl) (fun _ _ _ h => h) (Or.inl ⟨by rfl, ?hyr1x38q119⟩) (by assumption) ?restr1x38q119
      case hyr1x38q119 => intro wq hSw; (go_simp); (try with_reducible rfl)
      try simp only [Act.put, List.setIfInBounds_toArray, List.set_cons_zero, List.set_cons_succ]
      refine wpAnyH_take (i := 39) (oi := ⟨some 57, .move (.tmp 5), 3, "ref.go:165", #[⟨37, .guard⟩], some (37, false)⟩) (v := ?_) rfl (by kernel_rfl) (by kernel_rfl) (by kernel_rfl) (fun _ _ _ h => h) (Or.inl ⟨by rfl, ?hyr1x39q122⟩) (by assumption) ?restr1x39q122
      case hyr1x39q122 => intro wq hSw; (go_simp); (try with_reducible rfl)
      try simp only [Act.put, List.setIfInBounds_toArray, List.set_cons_zero, List.set_cons_succ]
      refine wpAnyH_take (i := 40) (oi := ⟨some 58, .indexAddr 24 (.tmp 56) (.tmp 57), 0, "ref.go:165", #[⟨38, .data⟩, ⟨39, .data⟩, ⟨37, .guard⟩], some (37, false)⟩) (v := ?_) rfl (by kernel_rfl) (by kernel_rfl) (by kernel_rfl) (fun _ _ _ h => h) (Or.inl ⟨by rfl, ?hyr1x40q125⟩) (by assumption) ?restr1x40q125
      case hyr1x40q125 => intro wq hSw; (go_simp); (try with_reducible rfl)
      try simp only [Act.put, List.setIfInBounds_toArray, List.set_cons_zero, List.set_cons_succ]
      refine wpAnyH_take (i := 41) (oi := ⟨some 59, .fieldAddr 45 (.tmp 58) 1, 0, "ref.go:165", #[⟨40, .data⟩, ⟨37, .guard⟩], some (37, false)⟩) (v := ?_) rfl (by kernel_rfl) (by kernel_rfl) (by kernel_rfl) (fun _ _ _ h => h) (Or.inl ⟨by rfl, ?hyr1x41q128⟩) (by assumption) ?restr1x41q128
      case hyr1x41q128 => intro wq hSw; (go_simp); (try with_reducible rfl)
      try simp only [Act.put, List.setIfInBounds_toArray, List.set_cons_zero, List.set_cons_succ]
      refine wpAnyH_take (i := 42) (oi := ⟨some 60, .load 22 (.tmp 59), 22, "ref.go:165", #[⟨41, .data⟩, ⟨37, .guard⟩], some (37, false)⟩) (v := ?_) rfl (by kernel_rfl) (by kernel_rfl) (by kernel_rfl) (fun _ _ _ h => h) (Or.inl ⟨by rfl, ?hyr1x42q131⟩) (by assumption) ?restr1x42q131
      case hyr1x42q131 => intro wq hSw; (have cq := A1.out wq hSw; go_simp); (try with_reducible rfl)
      try simp only [Act.put, List.setIfInBounds_toArray, List.set_cons_zero, List.set_cons_succ]
      refine wpAnyH_take (i := 43) (oi := ⟨some 61, .move (.tmp 1), 24, "ref.go:165", #[⟨37, .guard⟩], some (37, false)⟩) (v := ?_) rfl (by kernel_rfl) (by kernel_rfl) (by kernel_rfl) (fun _ _ _ h => h) (Or.inl ⟨by rfl, ?hyr1x43q134⟩) (by assumption) ?restr1x43q134
      case hyr1x43q134 => intro wq hSw; (go_simp); (try with_reducible rfl)
      try simp only [Act.put, List.setIfInBounds_toArray, List.set_cons_zero, List.set_cons_succ]
      refine wpAnyH_take (i := 44) (oi := ⟨some 62, .move (.tmp 5), 3, "ref.go:165", #[⟨37, .guard⟩], some (37, false)⟩) (v := ?_) rfl (by kernel_rfl) (by kernel_rfl) (by kernel_rfl) (fun _ _ _ h => h) (Or.inl ⟨by rfl, ?hyr1x44q137⟩) (by assumption) ?restr1x44q137
      case hyr1x44q137 => intro wq hSw; (go_simp); (try with_reducible rfl)
      try simp only [Act.put, List.setIfInBounds_toArray, List.set_cons_zero, List.set_cons_succ]
      refine wpAnyH_take (i := 45) (oi := ⟨some 63, .indexAddr 24 (.tmp 61) (.tmp 62), 0, "ref.go:165", #[⟨43, .data⟩, ⟨44, .data⟩, ⟨37, .guard⟩], some (37, false)⟩) (v := ?_) rfl (by kernel_rfl) (by kernel_rfl) (by kernel_rfl) (fun _ _ _ h => h) (Or.inl ⟨by rfl, ?hyr1x45q140⟩) (by assumption) ?restr1x45q140
      case hyr1x45q140 => intro wq hSw; (go_simp); (try with_reducible rfl)
      try simp only [Act.put, List.setIfInBounds_toArray, List.set_cons_zero, List.set_cons_succ]
      refine wpAnyH_take (i := 46) (oi := ⟨some 64, .fieldAddr 45 (.tmp 63) 1, 0, "ref.go:165", #[⟨45, .data⟩, ⟨37, .guard⟩], some (37, false)⟩) (v := ?_) rfl (by kernel_rfl) (by kernel_rfl) (by kernel_rfl) (fun _ _ _ h => h) (Or.inl ⟨by rfl, ?hyr1x46q143⟩) (by assumption) ?restr1x46q143
      case hyr1x46q143 => intro wq hSw; (go_simp); (try with_reducible rfl)
      try simp only [Act.put, List.setIfInBounds_toArray, List.set_cons_zero, List.set_cons_succ]
      refine wpAnyH_take (i := 47) (oi := ⟨some 65, .load 22 (.tmp 64), 22, "ref.go:165", #[⟨46, .data⟩, ⟨37, .guard⟩], some (37, false)⟩) (v := ?_) rfl (by kernel_rfl) (by kernel_rfl) (by kernel_rfl) (fun _ _ _ h => h) (Or.inl ⟨by rfl, ?hyr1x47q146⟩) (by assumption) ?restr1x47q146
      case hyr1x47q146 => intro wq hSw; (have cq := B1.out wq hSw; go_simp); (try with_reducible rfl)
      try simp only [Act.put, List.setIfInBounds_toArray, List.set_cons_zero, List.set_cons_succ]
      refine wpAnyH_ready (rs := [48]) (by kernel_rfl) (by simp) ?_
      refine AllReadyH.cons (o := ⟨some 66, .call { callee := .value (.func 64), args := #[.tmp 60, .tmp 65], argTypes := #[22, 22] }, 4, "ref.go:165", #[⟨42, .data⟩, ⟨47, .data⟩, ⟨37, .chain⟩, ⟨37, .guard⟩], some (37, false)⟩) rfl (fun K hK => ?_) AllReadyH.nil
      go_simp
      (with_reducible refine (sameints_x _ _ _ _ _ y.known _ (S1.out.nx hHeld) (T1.out.nx hHeld) (by omega)).mono ?_)
      rintro e wb ⟨rfl, kk⟩
      replace hHeld := hHeld.nx kk
      clear kk
      refine hK.out _ _ (hHeld) (fun hHeld => ?_)
      clear hK K
      try simp only [Act.put, List.setIfInBounds_toArray, List.set_cons_zero, List.set_cons_succ]
      refine wpAnyH_take (i := 49) (oi := ⟨some 67, .unOp .not 4 (.tmp 66), 4, "ref.go:165", #[⟨48, .data⟩, ⟨37, .guard⟩], some (37, false)⟩) (v := ?_) rfl (by kernel_rfl) (by kernel_rfl) (by kernel_rfl) (fun _ _ _ h => h) (Or.inl ⟨by rfl, ?hyr1x49q159⟩) (by assumption) ?restr1x49q159
      case hyr1x49q159 => intro wq hSw; (go_simp); (try with_reducible rfl)
      try simp only [Act.put, List.setIfInBounds_toArray, List.set_cons_zero, List.set_cons_succ]
      refine wpAnyH_take (i := 50) (oi := ⟨some 68, .pick (.tmp 55) (.const (.bool true)) (.tmp 67), 4, "ref.go:165", #[⟨37, .data⟩, ⟨49, .data⟩], none⟩) (v := ?_) rfl (by kernel_rfl) (by kernel_rfl) (by kernel_rfl) (fun _ _ _ h => h) (Or.inl ⟨by rfl, ?hyr1x50q162⟩) (by assumption) ?restr1x50q162
      case hyr1x50q162 => intro wq hSw; (go_simp); (try with_reducible rfl)
      try simp only [Act.put, List.setIfInBounds_toArray, List.set_cons_zero, List.set_cons_succ]
      refine wpAnyH_take (i := 51) (oi := ⟨some 69, .move (.tmp 68), 4, "ref.go:165", #[⟨50, .data⟩, ⟨48, .chain⟩], none⟩) (v := ?_) rfl (by kernel_rfl) (by kernel_rfl) (by kernel_rfl) (fun _ _ _ h => h) (Or.inl ⟨by rfl, ?hyr1x51q165⟩) (by assumption) ?restr1x51q165
      case hyr1x51q165 => intro wq hSw; (go_simp); (try with_reducible rfl)
      try simp only [Act.put, List.setIfInBounds_toArray, List.set_cons_zero, List.set_cons_succ]
      refine wpAnyH_take (i := 52) (oi := ⟨some 70, .move (.tmp 0), 24, "ref.go:165", #[⟨51, .guard⟩], some (51, false)⟩) (v := ?_) rfl (by kernel_rfl) (by kernel_rfl) (by kernel_rfl) (fun _ _ _ h => h) (Or.inl ⟨by rfl, ?hyr1x52q168⟩) (by assumption) ?restr1x52q168
      case hyr1x52q168 => intro wq hSw; (go_simp); (try with_reducible rfl)
      try simp only [Act.put, List.setIfInBounds_toArray, List.set_cons_zero, List.set_cons_succ]
      refine wpAnyH_take (i := 53) (oi := ⟨some 71, .move (.tmp 5), 3, "ref.go:165", #[⟨51, .guard⟩], some (51, false)⟩) (v := ?_) rfl (by kernel_rfl) (by kernel_rfl) (by kernel_rfl) (fun _ _ _ h => h) (Or.inl ⟨by rfl, ?hyr1x53q171⟩) (by assumption) ?restr1x53q171
      case hyr1x53q171 => intro wq hSw; (go_simp); (try with_reducible rfl)
      try simp only [Act.put, List.setIfInBounds_toArray, List.set_cons_zero, List.set_cons_succ]
      refine wpAnyH_take (i := 54) (oi := ⟨some 72, .indexAddr 24 (.tmp 70) (.tmp 71), 0, "ref.go:165", #[⟨52, .data⟩, ⟨53, .data⟩, ⟨51, .guard⟩], some (51, false)⟩) (v := ?_) rfl (by kernel_rfl) (by kernel_rfl) (by kernel_rfl) (fun _ _ _ h => h) (Or.inl ⟨by rfl, ?hyr1x54q174⟩) (by assumption) ?restr1x54q174
      case hyr1x54q174 => intro wq hSw; (go_simp); (try with_reducible rfl)
      try simp only [Act.put, List.setIfInBounds_toArray, List.set_cons_zero, List.set_cons_succ]
      refine wpAnyH_take (i := 55) (oi := ⟨some 73, .fieldAddr 45 (.tmp 72) 4, 0, "ref.go:165", #[⟨54, .data⟩, ⟨51, .guard⟩], some (51, false)⟩) (v := ?_) rfl (by kernel_rfl) (by kernel_rfl) (by kernel_rfl) (fun _ _ _ h => h) (Or.inl ⟨by rfl, ?hyr1x55q177⟩) (by assumption) ?restr1x55q177
      case hyr1x55q177 => intro wq hSw; (go_simp); (try with_reducible rfl)
      try simp only [Act.put, List.setIfInBounds_toArray, List.set_cons_zero, List.set_cons_succ]
      refine wpAnyH_take (i := 56) (oi := ⟨some 74, .load 43 (.tmp 73), 43, "ref.go:165", #[⟨55, .data⟩, ⟨51, .guard⟩], some (51, false)⟩) (v := ?_) rfl (by kernel_rfl) (by kernel_rfl) (by kernel_rfl) (fun _ _ _ h => h) (Or.inl ⟨by rfl, ?hyr1x56q180⟩) (by assumption) ?restr1x56q180
      case hyr1x56q180 => intro wq hSw; (have cq := A4.out wq hSw; go_simp); (try with_reducible rfl)
      try simp only [Act.put, List.setIfInBounds_toArray, List.set_cons_zero, List.set_cons_succ]
      refine wpAnyH_take (i := 57) (oi := ⟨some 75, .call { callee := .builtin .len, args := #[.tmp 74], argTypes := #[43] }, 3, "ref.go:165", #[⟨56, .data⟩, ⟨51, .guard⟩], some (51, false)⟩) (v := ?_) rfl (by kernel_rfl) (by kernel_rfl) (by kernel_rfl) (fun _ _ _ h => h) (Or.inl ⟨by rfl, ?hyr1x57q183⟩) (by assumption) ?restr1x57q183
      case hyr1x57q183 => intro wq hSw; (go_simp); (try with_reducible rfl)
      try simp only [Act.put, List.setIfInBounds_toArray, List.set_cons_zero, List.set_cons_succ]
      refine wpAnyH_take (i := 58) (oi := ⟨some 76, .move (.tmp 1), 24, "ref.go:165", #[⟨51, .guard⟩], some (51, false)⟩) (v := ?_) rfl (by kernel_rfl) (by kernel_rfl) (by kernel_rfl) (fun _ _ _ h => h) (Or.inl ⟨by rfl, ?hyr1x58q186⟩) (by assumption) ?restr1x58q186
      case hyr1x58q186 => intro wq hSw; (go_simp); (try with_reducible rfl)
      try simp only [Act.put, List.setIfInBounds_toArray, List.set_cons_zero, List.set_cons_succ]
      refine wpAnyH_take (i := 59) (oi := ⟨some 77, .move (.tmp 5), 3, "ref.go:165", #[⟨51, .guard⟩], some (51, false)⟩) (v := ?_) rfl (by kernel_rfl) (by kernel_rfl) (by kernel_rfl) (fun _ _ _ h => h) (Or.inl ⟨by rfl, ?hyr1x59q189⟩) (by assumption) ?restr1x59q189
      case hyr1x59q189 => intro wq hSw; (go_simp); (try with_reducible rfl)
      try simp only [Act.put, List.setIfInBounds_toArray, List.set_cons_zero, List.set_cons_succ]
      refine wpAnyH_take (i := 60) (oi := ⟨some 78, .indexAddr 24 (.tmp 76) (.tmp 77), 0, "ref.go:165", #[⟨58, .data⟩, ⟨59, .data⟩, ⟨51, .guard⟩], some (51, false)⟩) (v := ?_) rfl (by kernel_rfl) (by kernel_rfl) (by kernel_rfl) (fun _ _ _ h => h) (Or.inl ⟨by rfl, ?hyr1x60q192⟩) (by assumption) ?restr1x60q192
      case hyr1x60q192 => intro wq hSw; (go_simp); (try with_reducible rfl)
      try simp only [Act.put, List.setIfInBounds_toArray, List.set_cons_zero, List.set_cons_succ]
      refine wpAnyH_take (i := 61) (oi := ⟨some 79, .fieldAddr 45 (.tmp 78) 4, 0, "ref.go:165", #[⟨60, .data⟩, ⟨51, .guard⟩], some (51, false)⟩) (v := ?_) rfl (by kernel_rfl) (by kernel_rfl) (by kernel_rfl) (fun _ _ _ h => h) (Or.inl ⟨by rfl, ?hyr1x61q195⟩) (by assumption) ?restr1x61q195
      case hyr1x61q195 => intro wq hSw; (go_simp); (try with_reducible rfl)
      try simp only [Act.put, List.setIfInBounds_toArray, List.set_cons_zero, List.set_cons_succ]
      refine wpAnyH_take (i := 62) (oi := ⟨some 80, .load 43 (.tmp 79), 43, "ref.go:165", #[⟨61, .data⟩, ⟨51, .guard⟩], some (51, false)⟩) (v := ?_) rfl (by kernel_rfl) (by kernel_rfl) (by kernel_rfl) (fun _ _ _ h => h) (Or.inl ⟨by rfl, ?hyr1x62q198⟩) (by assumption) ?restr1x62q198
      case hyr1x62q198 => intro wq hSw; (have cq := B4.out wq hSw; go_simp); (try with_reducible rfl)
      try simp only [Act.put, List.setIfInBounds_toArray, List.set_cons_zero, List.set_cons_succ]
      refine wpAnyH_take (i := 63) (oi := ⟨some 81, .call { callee := .builtin .len, args := #[.tmp 80], argTypes := #[43] }, 3, "ref.go:165", #[⟨62, .data⟩, ⟨51, .guard⟩], some (51, false)⟩) (v := ?_) rfl (by kernel_rfl) (by kernel_rfl) (by kernel_rfl) (fun _ _ _ h => h) (Or.inl ⟨by rfl, ?hyr1x63q201⟩) (by assumption) ?restr1x63q201
      case hyr1x63q201 => intro wq hSw; (go_simp); (try with_reducible rfl)
      try simp only [Act.put, List.setIfInBounds_toArray, List.set_cons_zero, List.set_cons_succ]
      refine wpAnyH_take (i := 64) (oi := ⟨some 82, .binOp .neq 3 (.tmp 75) (.tmp 81) 3, 4, "ref.go:165", #[⟨57, .data⟩, ⟨63, .data⟩, ⟨51, .guard⟩], some (51, false)⟩) (v := ?_) rfl (by kernel_rfl) (by kernel_rfl) (by kernel_rfl) (fun _ _ _ h => h) (Or.inl ⟨by rfl, ?hyr1x64q204⟩) (by assumption) ?restr1x64q204
      case hyr1x64q204 => intro wq hSw; (go_simp); (try with_reducible rfl)
      try simp only [Act.put, List.setIfInBounds_toArray, List.set_cons_zero, List.set_cons_succ]
      refine wpAnyH_take (i := 65) (oi := ⟨some 83, .pick (.tmp 69) (.const (.bool true)) (.tmp 82), 4, "ref.go:165", #[⟨51, .data⟩, ⟨64, .data⟩], none⟩) (v := ?_) rfl (by kernel_rfl) (by kernel_rfl) (by kernel_rfl) (fun _ _ _ h => h) (Or.inl ⟨by rfl, ?hyr1x65q207⟩) (by assumption) ?restr1x65q207
      case hyr1x65q207 => intro wq hSw; (go_simp); (try with_reducible rfl)
      try simp only [Act.put, List.setIfInBounds_toArray, List.set_cons_zero, List.set_cons_succ]
      refine wpAnyH_done (by kernel_rfl) ?_ _
      have K6 := Lib.hid hHeld
      clear hHeld hDrew
      have cq := A4.out _ K6.out
      go_wp2_with fail
      go_loopw [6] (fun i wr => KtRel m4 wb i wr) (fun i _ => m4 - (intOf i).toNat)
      case atStart => exact ⟨0, Nat.zero_le _, rfl, Ex.refl _⟩
      case round =>
        clear cq
        obtain ⟨t, ht, rfl, kv⟩ := hrel
        obtain ⟨wj, rfl⟩ : ∃ wj : World, wj = wr := ⟨_, rfl⟩
        have KV := Lib.hid (K6.out.nx kv)
        have KJ := Lib.hid kv
        clear kv
        have cq := A4.out _ KV.out
        have cr := B4.out _ KV.out
        by_cases htt : t < m4
        · obtain ⟨xa, oa, z, rfl, hxa, hz, hca⟩ := (S4.out.nx KV.out).at htt
          obtain ⟨xb, ob, z', rfl, hxb, hz', hcb⟩ := (T4.out.nx KV.out).at htt
          obtain rfl : z = z' := Option.some.inj (hz.symm.trans hz')
          have f0 : wj.cell? ⟨xa, oa + t * 4, none⟩ = some (.int .i64 z.1) := by simpa using hca 0 _ rfl
          have f1 : wj.cell? ⟨xa, oa + t * 4 + 1, none⟩ = some (.int .i64 z.2.1) := by simpa using hca 1 _ rfl
          have f2 : wj.cell? ⟨xa, oa + t * 4 + 1 + 1, none⟩ = some (.int .i64 z.2.2.1) := by simpa [Nat.add_assoc] using hca 2 _ rfl
          have f3 : wj.cell? ⟨xa, oa + t * 4 + 1 + 1 + 1, none⟩ = some (.int .i64 z.2.2.2) := by simpa [Nat.add_assoc] using hca 3 _ rfl
          have g0 : wj.cell? ⟨xb, ob + t * 4, none⟩ = some (.int .i64 z.1) := by simpa using hcb 0 _ rfl
          have g1 : wj.cell? ⟨xb, ob + t * 4 + 1, none⟩ = some (.int .i64 z.2.1) := by simpa using hcb 1 _ rfl
          have g2 : wj.cell? ⟨xb, ob + t * 4 + 1 + 1, none⟩ = some (.int .i64 z.2.2.1) := by simpa [Nat.add_assoc] using hcb 2 _ rfl
          have g3 : wj.cell? ⟨xb, ob + t * 4 + 1 + 1 + 1, none⟩ = some (.int .i64 z.2.2.2) := by simpa [Nat.add_assoc] using hcb 3 _ rfl
          have RR := Lib.hid (fun m => show KtRel m4 wb (.int .i64 ((t : Int) + 1)) (wj.drewN m) from ⟨t + 1, by omega, by go_num, KJ.out.drewN m⟩)
          clear hca hcb hz hz' hxa hxb
          go_wp2_with fail
          go_quiet (fail)
          go_wp2_with fail
          exact ⟨RR.out _, by simp [intOf]; omega⟩
        · obtain rfl : t = m4 := by omega
          have RR := Lib.hid (show KtRel n w (.int .i64 ((k : Int) + 1)) wj from ⟨k + 1, by omega, by go_num, KW.out.nx KV.out⟩)
          clear ht htt
          go_wp2_with fail
          exact ⟨RR.out, by simp [intOf]; omega⟩
    · obtain rfl : k = n := by omega
      have K1 := Lib.hid KW.out
      clear hk
      go_wp2_with fail
      go_ret
      exact ⟨rfl, K1.out⟩
end Go.Proofs.YtbnbjiddffihoaaGreatDoor

/- The comparisons of law 16. -/
namespace Go.Proofs.YtbnbjiddffihoaaGreatDoor
open Go.RowKit

def InCRel (n : Nat) (w : World) (i : Value) (wr : World) : Prop := ∃ k : Nat, k ≤ n ∧ i = .int .i64 k ∧ Ex w wr
set_option maxRecDepth 100000 in
set_option maxHeartbeats 2000000 in
theorem introsEq_x (a : Option Addr) (n c : Nat) (M : List (Int × Int)) (a2 : Option Addr) (c2 : Nat) (w : World) (h : Sl 2 encS w a n M) (h2 : Sl 2 encS w a2 n M) (hn : n ≤ 1000000) :
    Calls Tryz.prog 34 #[.slice a n c, .slice a2 n c2] w fun e w' => e = .returned (.bool true) ∧ Ex w w' := by
  have H1 := Lib.hid h
  have H2 := Lib.hid h2
  clear h h2
  go_enter Tryz.func34, Tryz.ntmps34
  go_wp2_with fail
  go_loopw [5] (fun i wr => InCRel n w i wr) (fun i _ => n - (intOf i).toNat)
  case atStart => exact ⟨0, by omega, rfl, Ex.refl _⟩
  case round =>
    obtain ⟨k, hk, rfl, ki⟩ := hrel
    obtain ⟨wi, rfl⟩ : ∃ wi : World, wi = wr := ⟨_, rfl⟩
    by_cases hkn : k < n
    · obtain ⟨xa, oa, y, rfl, hxa, hy, hca⟩ := (H1.out.nx ki).at hkn
      obtain ⟨xb, ob, y', rfl, hxb, hy', hcb⟩ := (H2.out.nx ki).at hkn
      obtain rfl : y = y' := Option.some.inj (hy.symm.trans hy')
      obtain ⟨yt, ya⟩ := y
      have a0 : wi.cell? ⟨xa, oa + k * 2, none⟩ = some (.int .i64 yt) := by simpa using hca 0 _ rfl
      have a1 : wi.cell? ⟨xa, oa + k * 2 + 1, none⟩ = some (.int .i64 ya) := hca 1 _ rfl
      have b0 : wi.cell? ⟨xb, ob + k * 2, none⟩ = some (.int .i64 yt) := by simpa using hcb 0 _ rfl
      have b1 : wi.cell? ⟨xb, ob + k * 2 + 1, none⟩ = some (.int .i64 ya) := hcb 1 _ rfl
      have A0 := Lib.hid (fun wq (kq : Ex wi wq) => Chg.cellv kq a0 hxa)
      have A1 := Lib.hid (fun wq (kq : Ex wi wq) => Chg.cellv kq a1 hxa)
      have B0 := Lib.hid (fun wq (kq : Ex wi wq) => Chg.cellv kq b0 hxb)
      have B1 := Lib.hid (fun wq (kq : Ex wi wq) => Chg.cellv kq b1 hxb)
      have KI := Lib.hid ki
      have hkc : (k : Int) < (n : Int) := by omega
      clear hca hcb hy hy' hxa hxb a0 a1 b0 b1 ki
      go_upto_region 6 with fail
      refine wp_region_held_drew (S := Ex wi) (by kernel_rfl) ((Ex.refl wi).drew) (fun hHeld => ?_)
      obtain ⟨wd, hwdx⟩ : ∃ wd : World, wd = World.drew wi := ⟨_, rfl⟩
      rw [← hwdx] at hHeld ⊢
      have hDrew : Ex wi wd := by rw [hwdx]; exact (Ex.refl wi).drew
      clear hwdx
      refine wpAnyH_take (i := 0) (oi := ⟨some 17, .move (.tmp 0), 62, "law.go:28", #[], none⟩) (v := ?_) rfl (by kernel_rfl) (by kernel_rfl) (by kernel_rfl) (fun _ _ _ h => h) (Or.inl ⟨by rfl, ?hyr1x0q5⟩) (by assumption) ?restr1x0q5
      case hyr1x0q5 => intro wq hSw; (go_simp); (try with_reducible rfl)
      try simp only [Act.put, List.setIfInBounds_toArray, List.set_cons_zero, List.set_cons_succ]
      refine wpAnyH_take (i := 1) (oi := ⟨some 18, .move (.tmp 5), 3, "law.go:28", #[], none⟩) (v := ?_) rfl (by kernel_rfl) (by kernel_rfl) (by kernel_rfl) (fun _ _ _ h => h) (Or.inl ⟨by rfl, ?hyr1x1q8⟩) (by assumption) ?restr1x1q8
      case hyr1x1q8 => intro wq hSw; (go_simp); (try with_reducible rfl)
      try simp only [Act.put, List.setIfInBounds_toArray, List.set_cons_zero, List.set_cons_succ]
      refine wpAnyH_take (i := 2) (oi := ⟨some 19, .indexAddr 62 (.tmp 17) (.tmp 18), 0, "law.go:28", #[⟨0, .data⟩, ⟨1, .data⟩], none⟩) (v := ?_) rfl (by kernel_rfl) (by kernel_rfl) (by kernel_rfl) (fun _ _ _ h => h) (Or.inl ⟨by rfl, ?hyr1x2q11⟩) (by assumption) ?restr1x2q11
      case hyr1x2q11 => intro wq hSw; (go_simp); (try with_reducible rfl)
      try simp only [Act.put, List.setIfInBounds_toArray, List.set_cons_zero, List.set_cons_succ]
      refine wpAnyH_take (i := 3) (oi := ⟨some 20, .load 89 (.tmp 19), 89, "law.go:28", #[⟨2, .data⟩], none⟩) (v := ?_) rfl (by kernel_rfl) (by kernel_rfl) (by kernel_rfl) (fun _ _ _ h => h) (Or.inl ⟨by rfl, ?hyr1x3q14⟩) (by assumption) ?restr1x3q14
      case hyr1x3q14 => intro wq hSw; (have c0 := A0.out wq hSw; have c1 := A1.out wq hSw; go_simp); (try with_reducible rfl)
      try simp only [Act.put, List.setIfInBounds_toArray, List.set_cons_zero, List.set_cons_succ]
      refine wpAnyH_take (i := 4) (oi := ⟨some 21, .move (.tmp 1), 62, "law.go:28", #[], none⟩) (v := ?_) rfl (by kernel_rfl) (by kernel_rfl) (by kernel_rfl) (fun _ _ _ h => h) (Or.inl ⟨by rfl, ?hyr1x4q17⟩) (by assumption) ?restr1x4q17
      case hyr1x4q17 => intro wq hSw; (go_simp); (try with_reducible rfl)
      try simp only [Act.put, List.setIfInBounds_toArray, List.set_cons_zero, List.set_cons_succ]
      refine wpAnyH_take (i := 5) (oi := ⟨some 22, .move (.tmp 5), 3, "law.go:28", #[], none⟩) (v := ?_) rfl (by kernel_rfl) (by kernel_rfl) (by kernel_rfl) (fun _ _ _ h => h) (Or.inl ⟨by rfl, ?hyr1x5q20⟩) (by assumption) ?restr1x5q20
      case hyr1x5q20 => intro wq hSw; (go_simp); (try with_reducible rfl)
      try simp only [Act.put, List.setIfInBounds_toArray, List.set_cons_zero, List.set_cons_succ]
      refine wpAnyH_take (i := 6) (oi := ⟨some 23, .indexAddr 62 (.tmp 21) (.tmp 22), 0, "law.go:28", #[⟨4, .data⟩, ⟨5, .data⟩], none⟩) (v := ?_) rfl (by kernel_rfl) (by kernel_rfl) (by kernel_rfl) (fun _ _ _ h => h) (Or.inl ⟨by rfl, ?hyr1x6q23⟩) (by assumption) ?restr1x6q23
      case hyr1x6q23 => intro wq hSw; (go_simp); (try with_reducible rfl)
      try simp only [Act.put, List.setIfInBounds_toArray, List.set_cons_zero, List.set_cons_succ]
      refine wpAnyH_take (i := 7) (oi := ⟨some 24, .load 89 (.tmp 23), 89, "law.go:28", #[⟨6, .data⟩], none⟩) (v := ?_) rfl (by kernel_rfl) (by kernel_rfl) (by kernel_rfl) (fun _ _ _ h => h) (Or.inl ⟨by rfl, ?hyr1x7q26⟩) (by assumption) ?restr1x7q26
      case hyr1x7q26 => intro wq hSw; (have c0 := B0.out wq hSw; have c1 := B1.out wq hSw; go_simp); (try with_reducible rfl)
      try simp only [Act.put, List.setIfInBounds_toArray, List.set_cons_zero, List.set_cons_succ]
      refine wpAnyH_take (i := 8) (oi := ⟨some 25, .binOp .neq 89 (.tmp 20) (.tmp 24) 89, 4, "law.go:28", #[⟨3, .data⟩, ⟨7, .data⟩], none⟩) (v := ?_) rfl (by kernel_rfl) (by kernel_rfl) (by kernel_rfl) (fun _ _ _ h => h) (Or.inl ⟨by rfl, ?hyr1x8q29⟩) (by assumption) ?restr1x8q29
      case hyr1x8q29 => intro wq hSw; (go_simp); (try with_reducible rfl)
      try simp only [Act.put, List.setIfInBounds_toArray, List.set_cons_zero, List.set_cons_succ]
      refine wpAnyH_done (by kernel_rfl) ?_ _
      have KD := Lib.hid (KI.out.nx hHeld)
      clear hHeld hDrew
      go_wp2_with fail
      exact ⟨⟨k + 1, by omega, by go_num, KD.out⟩, by simp [intOf]; omega⟩
    · obtain rfl : k = n := by omega
      have KI := Lib.hid ki
      clear ki
      go_wp2_with fail
      go_ret
      exact ⟨rfl, KI.out⟩
def Few20 (P : List Pr) : Prop := P.length ≤ 20 ∧ ∀ p ∈ P, p.known.length ≤ 20 ∧ p.near.length ≤ 20
def SmlPost (P : List Pr) (w : World) (e : Ending) (w' : World) : Prop := ∃ b : Bool, e = .returned (.bool b) ∧ (b = true → Few20 P) ∧ Ex w w'
def SmlRel (P : List Pr) (n : Nat) (w : World) (i : Value) (wr : World) : Prop := ∃ k : Nat, k ≤ n ∧ i = .int .i64 k ∧ (∀ j p, j < k → P[j]? = some p → p.known.length ≤ 20 ∧ p.near.length ≤ 20) ∧ Ex w wr
set_option maxRecDepth 100000 in
set_option maxHeartbeats 2000000 in
theorem small_x (a : Option Addr) (n c : Nat) (P : List Pr) (w : World) (h : PL w a n P) :
    Calls Tryz.prog 14 #[.slice a n c] w (SmlPost P w) := by
  have HL := Lib.hid h.len
  have H := Lib.hid h
  clear h
  go_enter Tryz.func14, Tryz.ntmps14
  by_cases h20 : n > 20
  · have h2 : (n : Int) > 20 := by omega
    have h3 : (20 : Int) < (n : Int) := by omega
    clear h20
    go_wp2_with fail
    go_ret
    exact ⟨false, rfl, (fun h => by cases h), Ex.refl _⟩
  have h2 : ¬ (n : Int) > 20 := by omega
  have h3 : ¬ (20 : Int) < (n : Int) := by omega
  go_wp2_with fail
  go_loopw [3] (fun i wr => SmlRel P n w i wr) (fun i _ => n - (intOf i).toNat)
  case atStart => exact ⟨0, by omega, rfl, (fun j p h => by omega), Ex.refl _⟩
  case round =>
    obtain ⟨k, hk, rfl, hall, ki⟩ := hrel
    obtain ⟨wi, rfl⟩ : ∃ wi : World, wi = wr := ⟨_, rfl⟩
    have HA := Lib.hid hall
    clear hall
    by_cases hkn : k < n
    · obtain ⟨x5, o5, b1, m1, d1, b4, m4, d4, y, rfl, hx5, hy, e0, e1, e2, e3, e4, s1, s4⟩ := (H.out.nx ki).rd hkn
      have HY := Lib.hid hy
      have l1 := Lib.hid s1.len
      have l4 := Lib.hid s4.len
      have e4' : wi.cell? ⟨x5, o5 + k * 5 + 4, none⟩ = some (.slice b4 m4 d4) := by simpa [Nat.add_assoc] using e4
      have KI := Lib.hid ki
      have hkc : (k : Int) < (n : Int) := by omega
      clear hy s1 s4 ki hx5 e0 e2 e3 e4
      by_cases q1 : m1 > 20
      · have g1 : (m1 : Int) > 20 := by omega
        have g2 : (20 : Int) < (m1 : Int) := by omega
        clear q1
        go_wp2_with fail
        go_ret
        exact ⟨false, rfl, (fun h => by cases h), KI.out⟩
      by_cases q4 : m4 > 20
      · have g1 : ¬ (m1 : Int) > 20 := by omega
        have g2 : ¬ (20 : Int) < (m1 : Int) := by omega
        have g3 : (m4 : Int) > 20 := by omega
        have g4 : (20 : Int) < (m4 : Int) := by omega
        clear q1 q4
        go_wp2_with fail
        go_ret
        exact ⟨false, rfl, (fun h => by cases h), KI.out⟩
      have g1 : ¬ (m1 : Int) > 20 := by omega
      have g2 : ¬ (20 : Int) < (m1 : Int) := by omega
      have g3 : ¬ (m4 : Int) > 20 := by omega
      have g4 : ¬ (20 : Int) < (m4 : Int) := by omega
      have FN : Hid (SmlRel P n w (.int .i64 ((k : Int) + 1)) wi) := Lib.hid ⟨k + 1, by omega, by go_num, (fun j p hj hp => by
        rcases Nat.lt_or_ge j k with h | h
        · exact HA.out j p h hp
        · obtain rfl : j = k := by omega
          rw [HY.out] at hp
          cases hp
          have := l1.out
          have := l4.out
          omega), KI.out⟩
      clear q1 q4
      go_wp2_with fail
      exact ⟨FN.out, by simp [intOf]; omega⟩
    · obtain rfl : k = n := by omega
      have FN : Hid (SmlPost P w (.returned (.bool true)) wi) := Lib.hid ⟨true, rfl, (fun _ => ⟨by have := HL.out; omega, fun p hp => by
        obtain ⟨j, hj⟩ := List.mem_iff_getElem?.1 hp
        exact HA.out j p (by have := (List.getElem?_eq_some_iff.1 hj).1; have := HL.out; omega) hj⟩), ki⟩
      clear ki
      go_wp2_with fail
      go_ret
      exact FN.out
end Go.Proofs.YtbnbjiddffihoaaGreatDoor

/- The sanity check of chapter 16, and its chain. -/
namespace Go.Proofs.YtbnbjiddffihoaaGreatDoor
open Go.RowKit

def twoN : List Nd := [⟨1, ⟨#[97]⟩, 0⟩, ⟨2, ⟨#[98]⟩, 0⟩]
def onePr : List Pr := [⟨2, 0, 0, [1], []⟩]
def sL1 : List Pr := roundN twoN onePr
def sL2 : List Pr := roundN twoN sL1
theorem sL1_is : sL1 = [⟨1, 0, 0, [2], []⟩, ⟨2, 1, 0, [1], []⟩] := by kernel_rfl
theorem sL2_at : (sL2.length, (sL2[0]?).map fun p => p.right) = (2, some 2) := by decide +kernel
theorem two_ex1 : exactLB twoN sL1 = false := by decide +kernel
theorem two_ex2 : exactLB twoN sL2 = true := by decide +kernel
theorem two_nor : (normalN twoN []).length = 2 := by decide +kernel
theorem twoW : ∀ x ∈ twoN, x.word < 4294967296 := by decide +kernel
theorem sL2_small : sL2.all (fun p => decide (p.known.length ≤ 10) && decide (p.near.length ≤ 10)) = true := by decide +kernel
theorem small_of {P : List Pr} (h : P.all (fun p => decide (p.known.length ≤ 10) && decide (p.near.length ≤ 10)) = true) : SmallP P := fun p hp => by
  have := List.all_eq_true.1 h p hp
  simp only [Bool.and_eq_true, decide_eq_true_eq] at this
  omega
theorem twoLit (w : World) : ∃ g v, g = w.heap.size ∧ v = w.alloc (.cells #[.int .i64 1, .string ⟨#[97]⟩, .int .u32 0, .int .i64 2, .string ⟨#[98]⟩, .int .u32 0] 57) ∧ Sl 3 encN v (some ⟨g, 0, none⟩) 2 twoN ∧ Ex w v :=
  ⟨_, _, rfl, rfl, Sl.lit twoN rfl rfl (fun _ => rfl) rfl, Ex.new _ _⟩
theorem oneLit (w : World) : ∃ g1 g2 v, g1 = w.heap.size ∧ g2 = w.heap.size + 1 ∧ v = (w.alloc (.cells #[.int .i64 1] 3)).alloc (.cells #[.int .i64 2, .slice (some ⟨g1, 0, none⟩) 1 1, .int .i64 0, .int .i64 0, .slice none 0 0] 45) ∧ PL v (some ⟨g2, 0, none⟩) 1 onePr ∧ Ex w v := by
  refine ⟨_, _, _, rfl, rfl, rfl, ⟨[((2, 0, 0), (some ⟨w.heap.size, 0, none⟩, 1, 1), (none, 0, 0))], ?_, rfl, fun j q p hq hp => ?_⟩, (Ex.new _ _).nx (Ex.new _ _)⟩
  · have := Sl.lit (enc := encQ) (sz := 5) (w := w.alloc (.cells #[.int .i64 1] 3)) (s := w.heap.size + 1) (cs := #[.int .i64 2, .slice (some ⟨w.heap.size, 0, none⟩) 1 1, .int .i64 0, .int .i64 0, .slice none 0 0]) (ty := 45) (n := 1) [((2, 0, 0), (some ⟨w.heap.size, 0, none⟩, 1, 1), (none, 0, 0))] (by simp) rfl encQ_len rfl
    exact this
  · rcases j with _ | j
    · simp only [List.getElem?_cons_zero, Option.some.injEq, onePr] at hq hp
      subst hq hp
      exact ⟨rfl, (Sl.lit [1] rfl rfl (fun _ => rfl) rfl : Sl 1 encI (w.alloc (.cells #[.int .i64 1] 3)) (some ⟨w.heap.size, 0, none⟩) 1 [1]).nx (Ex.new _ _), Sl.nil _ _ _ _⟩
    · simp at hq
set_option maxRecDepth 100000 in
set_option maxHeartbeats 8000000 in
theorem sane16_x (w : World) (hT : TabG w) : Calls Tryz.prog 15 #[] w fun e w' => e = .returned (.bool true) ∧ Ex w w' := by
  go_enter Tryz.func15, Tryz.ntmps15
  obtain ⟨g1, w1, hg1, hw1, S1, k⟩ := twoLit w
  have T := hT.nx k
  have Hg1 := Lib.hid hg1
  have Hw1 := Lib.hid hw1
  clear hT hg1 hw1
  go_upto_region 2 with fail
  rw [← Hw1.out, ← Hg1.out]
  clear Hw1 Hg1
  obtain ⟨g2, g3, w2, hg2, hg3, hw2, P1, kk⟩ := oneLit w1
  replace k := k.nx kk
  replace T := T.nx kk
  replace S1 := S1.nx kk
  subst hg2
  have Hg3 := Lib.hid hg3
  have Hw2 := Lib.hid hw2
  clear kk hg3 hw2
  go_wp2_with fail
  rw [← Hg3.out, ← Hw2.out]
  clear Hg3 Hw2
  (with_reducible refine (lround_p _ _ _ twoN _ _ _ onePr _ S1 (by omega) (by omega) (by unfold maxLen; omega) P1 (by omega) (small_of (by decide))).mono ?_)
  rintro e w3 ⟨v, qs, rfl, own, kk⟩
  replace k := k.nx kk
  replace T := T.nx kk
  replace S1 := S1.nx kk
  clear kk P1
  replace own : OwnPr w2.heap.size w3 v qs sL1 := own
  rw [sL1_is] at own
  obtain ⟨aL, cL, rfl, PL1, _, _, _⟩ := own.pl
  clear own
  simp only [List.length_cons, List.length_nil, Nat.zero_add, Nat.reduceAdd] at PL1 ⊢
  go_wp2_with fail
  (with_reducible refine (lround_p _ _ _ twoN _ _ _ _ _ S1 (by omega) (by omega) (by unfold maxLen; omega) PL1 (by omega) (small_of (by decide))).mono ?_)
  rintro e w4 ⟨v, qs, rfl, own, kk⟩
  replace k := k.nx kk
  replace T := T.nx kk
  replace S1 := S1.nx kk
  replace PL1 := PL1.nx kk
  clear kk
  rw [← sL1_is] at own
  replace own : OwnPr w3.heap.size w4 v qs sL2 := own
  obtain ⟨aM, cM, rfl, PL2, _, _, _⟩ := own.pl
  have h2 := sL2_at
  simp only [Prod.mk.injEq] at h2
  obtain ⟨h2l, h2r⟩ := h2
  rw [h2l] at PL2 ⊢
  clear own
  obtain ⟨x1, o1, b1, m1, d1, b4, m4, d4, y, rfl, hx1, hy, p0, p1, p2, p3, p4, s1, s4⟩ := PL1.rd (j := 0) (by omega)
  obtain ⟨x1', o1', b1', m1', d1', b4', m4', d4', y', he, hx1', hy', q0, q1, q2, q3, q4, s1', s4'⟩ := PL1.rd (j := 1) (by omega)
  cases he
  simp only [List.getElem?_cons_zero, List.getElem?_cons_succ, Option.some.injEq] at hy hy'
  subst hy hy'
  have hm1 : m1 = 1 := s1.len.symm
  subst hm1
  obtain ⟨x2, o2, b2, m2, d2, b5, m5, d5, z, rfl, hx2, hz, r0, r1, r2, r3, r4, t1, t4⟩ := PL2.rd (j := 0) (by omega)
  have hzr : z.right = 2 := by rw [hz] at h2r; simpa using h2r
  rw [hzr] at r3
  simp only [Nat.zero_mul, Nat.add_zero, Nat.one_mul] at p1 p3 q2 r3
  have S1 := Lib.hid S1
  have PL1 := Lib.hid PL1
  have PL2 := Lib.hid PL2
  have T := Lib.hid T
  have K := Lib.hid k
  clear p0 p2 p4 q0 q1 q3 q4 r0 r1 r2 r4 s1 s4 s1' s4' t1 t4 hz hzr h2l h2r k
  go_wp2_with fail
  (with_reducible refine (exact16_p _ _ _ twoN _ _ _ _ _ S1.out (by omega) (by omega) (by unfold maxLen; omega) twoW T.out PL1.out (by omega) (small_of (by decide))).mono ?_)
  rintro e w5 ⟨rfl, kk⟩
  rw [← sL1_is, two_ex1]
  replace S1 := Lib.hid (S1.out.nx kk)
  replace PL2 := Lib.hid (PL2.out.nx kk)
  replace T := Lib.hid (T.out.nx kk)
  replace K := Lib.hid (K.out.nx kk)
  clear kk p1 p3 q2 r3 PL1
  go_wp2_with fail
  (with_reducible refine (exact16_p _ _ _ twoN _ _ _ sL2 _ S1.out (by omega) (by omega) (by unfold maxLen; omega) twoW T.out PL2.out (by omega) (small_of sL2_small)).mono ?_)
  rintro e w6 ⟨rfl, kk⟩
  rw [two_ex2]
  replace S1 := Lib.hid (S1.out.nx kk)
  replace K := Lib.hid (K.out.nx kk)
  clear kk PL2
  go_wp2_with fail
  (with_reducible refine (rounds16_p 2 _).mono ?_)
  rintro e w7 ⟨rfl, rfl⟩
  go_wp2_with fail
  (with_reducible refine (normal_p _ _ _ twoN none 0 0 [] _ S1.out (by omega) (by omega) (by unfold maxLen; omega) (PL.nil _ _) (by omega) (small_of (by decide))).mono ?_)
  rintro e w8 ⟨v, qs, rfl, own, kk⟩
  obtain ⟨aN, cN, rfl, _⟩ := own.pl
  rw [two_nor]
  have KE := Lib.hid (K.out.nx kk)
  clear own kk
  go_wp2_with fail
  go_ret
  exact ⟨rfl, KE.out⟩
end Go.Proofs.YtbnbjiddffihoaaGreatDoor

/- What the law walks of chapter 16 share (printed by gen_l16.py). -/
namespace Go.Proofs.YtbnbjiddffihoaaGreatDoor
open Go.RowKit

theorem round_few {N : List Nd} {P : List Pr} {m M : Nat} (h : FewQ m M P) (hN : N.length ≤ m) : FewQ m M (roundN N P) := by
  intro p hp
  rw [roundN_eq] at hp
  obtain ⟨q, hq, rfl⟩ := List.mem_map.1 hp
  refine ⟨Nat.le_trans (ord_len _ _) hN, ?_⟩
  unfold normalN at hq
  split at hq
  · obtain ⟨x, _, rfl⟩ := List.mem_map.1 hq
    show (peerN P x.id).near.length ≤ M
    unfold peerN
    cases hf : P.find? fun p => p.id == x.id with
    | none => exact Nat.zero_le _
    | some q => exact (h q (List.mem_of_find?_eq_some hf)).2
  · cases hq
end Go.Proofs.YtbnbjiddffihoaaGreatDoor
