/- Texts for the statement BridgeKeepsProof, part 12 of 12: TJo, L17C, L17K, Laid4, LaidL, Laid2, Open, BridgeKeepsProof. -/
import Derived.Test.YtbnbjiddffihoaaGreatDoorTie
import Derived.Test.YtbnbjiddffihoaaGreatDoorCards
import Derived.Lib.LaidTab
import Derived.Lib.LaidU8
import Derived.LaidMore
import Derived.Stop.Joined
import Derived.SevenTiedAt
import Derived.ChangeArms
import Derived.LaidSub
import Derived.Test.YtbnbjiddffihoaaGreatDoorRows
import Derived.ProofKit
import Derived.OpenShut
import Derived.ShutString
import Derived.ChangeOld
import Derived.Lib.SmallJoins
import Derived.Deep.Slices
import Derived.Deep.Fields
import Derived.ChangeSame
import Derived.Test.YtbnbjiddffihoaaGreatDoorBridgeKeepsProofPk1
import Derived.Test.YtbnbjiddffihoaaGreatDoorBridgeKeepsProofPk3
import Derived.Test.YtbnbjiddffihoaaGreatDoorBridgeKeepsProofPk4
import Derived.Test.YtbnbjiddffihoaaGreatDoorBridgeKeepsProofPk6
import Derived.Test.YtbnbjiddffihoaaGreatDoorBridgeKeepsProofPk10
import Derived.Test.YtbnbjiddffihoaaGreatDoorBridgeKeepsProofPk11

/- Joined of the tape: peers by which the nodes are connected. -/
namespace Go.Proofs.YtbnbjiddffihoaaGreatDoor
open Go.RowKit

theorem wpList_append_rda {P : Program} {α : Type} {enc : α → List Value} {ops : Array Oper} {rest : List Oper} {o : Oper} {a : Act} {Q : Exit → Act → World → Prop} (w0 : World) (hgd : o.guard = none) (s x : Operand) (t : TypeId)
    (ho : o.op = .call { callee := .builtin .append, args := #[s, x], argTypes := #[t, t] })
    (base : Nat) (e : TypeId) (z : Value) (sz bytes : Nat) (ht : P.underlying t = some (.slice e)) (hi : (P.info? e).map (fun i => (i.zero, i.size, i.bytes)) = some (some z, sz, bytes))
    (hzs : z.cells.size = sz) (hsz : 0 < sz) (hby : bytes ≤ 65536)
    (v : Value) (l : List α) (hown : OwnL sz enc e base w0 v l) (hs : a.eval s = v) (S : Nat → Prop) (A : Option Addr) (n c : Nat) (news : List α) (hrd : Rd sz enc S w0 A n news) (hA : A = none → c = 0) (hlen : ∀ y, (enc y).length = sz) (h1 : ∀ y, ∀ u ∈ enc y, u.oneCell' = true)
    (hx : a.eval x = .slice A n c) (hl : l.length ≤ 100000000) (hn : n ≤ 100000000) (hbase : base ≤ w0.heap.size)
    (h : ∀ v' w', OwnL sz enc e base w' v' (l ++ news) → Chg (fun k => k < w0.heap.size ∧ ¬ v.ownBlock = some k) w0 w' → Chg (· < base) w0 w' → (v'.ownBlock = v.ownBlock ∨ v'.ownBlock = some w0.heap.size) → wpList P ops Q rest (a.put o.dst v') w') :
    wpList P ops Q (o :: rest) a w0 :=
  wpList_plain hgd fun _ hK => wp_append_rda w0 s x t ho base e z sz bytes ht hi hzs hsz hby v l hown hs S A n c news hrd hA hlen h1 hx hl hn hbase fun v' w' h2 h3 h4 h5 => hK _ _ (h v' w' h2 h3 h4 h5)
structure JoOf (b : Nat) (l : List Nd) (w w' : World) (v : Value) (qs : List PQ) (P : List Pr) : Prop where
  own : OwnPr w.heap.size w' v qs P
  ids : SameIds l P
  conn : ConnN l P
  small : ∀ p ∈ P, p.known.length ≤ 100 ∧ p.near.length ≤ 200
  tape : TK w' b
  k : Exb b w w'
def JoPost (b : Nat) (l : List Nd) (w : World) (e : Ending) (w' : World) : Prop := ∃ v qs P, e = .returned v ∧ JoOf b l w w' v qs P
def FewQ (m M : Nat) (P : List Pr) : Prop := ∀ p ∈ P, p.known.length ≤ m ∧ p.near.length ≤ M
theorem FewQ.snoc {m M : Nat} {P : List Pr} (h : FewQ m M P) {p : Pr} (hp : p.known.length ≤ m ∧ p.near.length ≤ M) : FewQ m M (P ++ [p]) := fun x hx => by
  rcases List.mem_append.1 hx with h1 | h1
  · exact h x h1
  · rw [List.mem_singleton.1 h1]; exact hp
theorem FewQ.set {m M m' M' a : Nat} {P : List Pr} (h : FewQ m M P) (hm : m ≤ m') (hM : M ≤ M') {p : Pr} (hp : p.known.length ≤ m' ∧ p.near.length ≤ M') : FewQ m' M' (P.set a p) := fun x hx => by
  rcases List.mem_or_eq_of_mem_set hx with h1 | h1
  · have := h x h1; omega
  · rw [h1]; exact hp
theorem same_snoc {l : List Nd} {P : List Pr} (h : ∀ (i : Nat) (x : Nd) (p : Pr), l[i]? = some x → P[i]? = some p → p.id = x.id) {x : Nd} {p : Pr} (hx : l[P.length]? = some x) (hp : p.id = x.id) :
    ∀ (i : Nat) (x : Nd) (q : Pr), l[i]? = some x → (P ++ [p])[i]? = some q → q.id = x.id := by
  intro i y q hy hq
  rcases Nat.lt_or_ge i P.length with h1 | h1
  · rw [List.getElem?_append_left h1] at hq
    exact h i y q hy hq
  · have h2 := (List.getElem?_eq_some_iff.1 hq).1
    rw [List.length_append, List.length_singleton] at h2
    obtain rfl : i = P.length := by omega
    rw [hx] at hy
    cases hy
    simp at hq
    rw [← hq]
    exact hp
theorem same_set {l : List Nd} {P : List Pr} (h : SameIds l P) {a : Nat} {p p' : Pr} (hp : P[a]? = some p) (he : p'.id = p.id) : SameIds l (P.set a p') := by
  refine ⟨by rw [List.length_set]; exact h.1, fun i x q hx hq => ?_⟩
  by_cases hia : i = a
  · subst hia
    rw [List.getElem?_set_self (List.getElem?_eq_some_iff.1 hp).1] at hq
    cases hq
    rw [he]
    exact h.2 i x p hx hp
  · rw [List.getElem?_set_ne (fun h => hia h.symm)] at hq
    exact h.2 i x q hx hq
def JoARel (m b na : Nat) (l : List Nd) (w : World) (o i : Value) (wr : World) : Prop :=
  ∃ (j : Nat) (qs : List PQ) (P : List Pr), j ≤ na ∧ i = .int .i64 j ∧ OwnPr w.heap.size wr o qs P ∧ P.length = j ∧ (∀ (i : Nat) (x : Nd) (p : Pr), l[i]? = some x → P[i]? = some p → p.id = x.id) ∧ FewQ 3 m P ∧ TK wr b ∧ Exb b w wr
def JoBRel (m b na : Nat) (l : List Nd) (v : Value) (w : World) (i : Value) (wr : World) : Prop :=
  ∃ (k : Nat) (qs : List PQ) (P : List Pr), 1 ≤ k ∧ k ≤ na + 1 ∧ i = .int .i64 k ∧ OwnPr w.heap.size wr v qs P ∧ SameIds l P ∧ FewQ (3 + k) (m + k) P ∧ TK wr b ∧ Exb b w wr
def JoXCut (b na : Nat) (w5 : World) (s11 s12 : Value) (wx : World) : Prop := ∃ a c : Nat, s11 = .int .i64 a ∧ s12 = .int .i64 c ∧ a < na ∧ c < na ∧ TK wx b ∧ Exb b w5 wx
def JoCRel (b na : Nat) (m M : Nat) (l : List Nd) (v : Value) (w : World) (i : Value) (wr : World) : Prop :=
  ∃ (k : Nat) (qs : List PQ) (P : List Pr), 1 ≤ k ∧ k ≤ na + 1 ∧ i = .int .i64 k ∧ OwnPr w.heap.size wr v qs P ∧ SameIds l P ∧ (∀ (i : Nat) (x : Nd) (p : Pr), i + 1 < k → l[i]? = some x → P[i + 1]? = some p → x.id ∈ p.known) ∧ FewQ (m + k) M P ∧ TK wr b ∧ Exb b w wr
set_option maxRecDepth 100000 in
set_option maxHeartbeats 16000000 in
theorem joined_t {b : Nat} (ht : Nat) (a : Option Addr) (na cp : Nat) (l : List Nd) (w : World) (h : TK w b) (hs : Slb 3 encN b w a na l) (hna : na ≤ 20) (hcp : na ≤ cp) (hmx : cp ≤ maxLen) (h0 : checkN l = 0) (hht : ht ≤ 100) :
    Calls Tryz.prog 24 #[.pointer (some ⟨b, 0, none⟩), .slice a na cp, .int .i64 ht] w (JoPost b l w) := by
  have hbw := h.lt
  have H0 := Lib.hid h0
  have HI : Hid (∀ x ∈ l, I64 x.id) := Lib.hid (fun x hx => (roster_ok h0 x hx).1.1)
  have HS := Lib.hid hs
  have HLN := Lib.hid hs.len
  clear hs h0
  go_enter Tryz.func24, Tryz.ntmps24
  go_wp2_with fail
  go_loopw [7, 8] (fun o i wr => JoARel (ht + 1) b na l w o i wr) (fun _ i _ => na - (intOf i).toNat)
  case atStart => exact ⟨0, [], [], by omega, rfl, OwnP.nil _ _ _ _ _, rfl, by intro i x p _ h; simp at h, by intro p h; simp at h, h, Exb.refl _ _⟩
  case round =>
    clear h
    obtain ⟨j, qs, P, hj, rfl, own, hPl, hids, few, T, kw⟩ := hrel
    obtain ⟨wo, rfl⟩ : ∃ wo : World, wo = wr := ⟨_, rfl⟩
    have zo := kw.size
    have hql : qs.length = j := by rw [own.2.1, hPl]
    have OWN := Lib.hid own
    have HIDS := Lib.hid hids
    have FEW := Lib.hid few
    have KW := Lib.hid kw
    clear own hids few kw
    by_cases hjn : j < na
    · obtain ⟨xl, ol, y, rfl, hxl, hy, hcl⟩ := Rd.at (HS.out.nxb KW.out) (j := j) hjn
      have e0 : wo.cell? ⟨xl, ol + j * 3, none⟩ = some (.int .i64 y.id) := hcl 0 _ rfl
      have HY := Lib.hid hy
      clear hcl hy
      go_wp2_with fail
      (refine (peer_t ht _ _ _ l _ T (HS.out.nxb KW.out) (by omega) HI.out hht).mono ?_)
      clear T
      rintro e w2 ⟨p, ⟨A1, m1, c1⟩, ⟨A4, m4, c4⟩, rfl, D⟩
      have ok := D.ok
      have on := D.on
      have T := D.tape
      have K2 := Lib.hid D.k
      have dl := Lib.hid (show p.known.length ≤ 3 ∧ p.near.length ≤ ht + 1 from ⟨D.lk, D.ln⟩)
      replace e0 := Chg.cellv D.k e0 hxl
      have hx2 := Nat.lt_of_lt_of_le hxl.1 D.k.size
      have hxb := hxl.2
      simp only [Hdr.val] at ok on ⊢
      have z2 := D.k.size
      clear D
      have B9 := Blk.new w2 [.int .i64 p.id, .slice A1 m1 c1, .int .i64 p.left, .int .i64 p.right, .slice A4 m4 c4] 45
      have kk := Ex.new w2 (.cells #[.int .i64 p.id, .slice A1 m1 c1, .int .i64 p.left, .int .i64 p.right, .slice A4 m4 c4] 45)
      obtain ⟨w4, hw4⟩ : ∃ w4, w4 = w2.alloc (.cells #[.int .i64 p.id, .slice A1 m1 c1, .int .i64 p.left, .int .i64 p.right, .slice A4 m4 c4] 45) := ⟨_, rfl⟩
      obtain ⟨g9, hg9⟩ : ∃ g9, g9 = w2.heap.size := ⟨_, rfl⟩
      replace B9 : Blk w4 g9 [.int .i64 p.id, .slice A1 m1 c1, .int .i64 p.left, .int .i64 p.right, .slice A4 m4 c4] 45 := by rw [hw4, hg9]; exact B9
      rw [← hw4] at kk
      have Hw4 := Lib.hid hw4
      have Hg9 := Lib.hid hg9
      replace ok := ok.nx kk
      replace on := on.nx kk
      replace T := T.nx kk
      have zg9 : wo.heap.size ≤ g9 := by omega
      have zb9 : b < g9 := by omega
      have nx9 : ¬ xl = g9 := by omega
      replace e0 := Chg.cellv (p := ⟨xl, ol + j * 3, none⟩) kk e0 hx2
      replace K2 := Lib.hid (K2.out.nxb (kk.b b))
      clear kk hw4 hg9
      go_upto_region 6 with fail
      rw [← Hg9.out, ← Hw4.out]
      clear Hg9 Hw4
      have c0 := B9.cell 0 _ rfl
      have f0 := B9.free 0
      have KS : Exb g9 w4 (w4.setCell ⟨g9, 0, none⟩ (.int .i64 y.id)) := (Exb.refl g9 w4).setB (p := ⟨g9, 0, none⟩) _ rfl
      obtain ⟨w5, hw5⟩ : ∃ w5, w5 = w4.setCell ⟨g9, 0, none⟩ (.int .i64 y.id) := ⟨_, rfl⟩
      go_upto_region 7 with fail
      rw [← hw5] at KS ⊢
      have ok5 := ok.put B9 (by decide) KS
      have on5 := on.put B9 (by decide) KS
      have T5 : TK w5 b := by rw [hw5]; exact T.set (p := ⟨g9, 0, none⟩) _ zb9
      have K5 : Exb b wo w5 := by rw [hw5]; exact K2.out.setNew (p := ⟨g9, 0, none⟩) _ zg9
      replace B9 : Blk w5 g9 [.int .i64 y.id, .slice A1 m1 c1, .int .i64 p.left, .int .i64 p.right, .slice A4 m4 c4] 45 := by rw [hw5]; exact B9.set 0 _
      have p0 := B9.cell 0 _ rfl
      have p1 := B9.cell 1 _ rfl
      have p2 := B9.cell 2 _ rfl
      have p3 := B9.cell 3 _ rfl
      have p4 := B9.cell 4 _ rfl
      have OWN5 := Lib.hid (OWN.out.nxb hbw K5)
      have KW5 := Lib.hid (KW.out.nxb K5)
      have kl := Ex.new w5 (.cells #[.int .i64 y.id, .slice A1 m1 c1, .int .i64 p.left, .int .i64 p.right, .slice A4 m4 c4] 45)
      have OL := Lib.hid (OWN5.out.nx kl)
      have okl := Lib.hid (ok5.nx kl)
      have onl := Lib.hid (on5.nx kl)
      have Tl := T5.nx kl
      have KL := Lib.hid (KW5.out.nxb (kl.b b))
      have zl := KL.out.size
      have SN := Lib.hid (same_snoc (p := ⟨y.id, p.left, p.right, p.known, p.near⟩) HIDS.out (by rw [hPl]; exact HY.out) rfl)
      clear hw5 c0 f0 KS ok on T B9 e0 T5 K5 ok5 on5 kl
      go_wp2_with (at_builtin; (refine wpList_append_W (enc := encQ) _ rfl _ _ 24 rfl w.heap.size 45 (.agg #[.int .i64 0, .slice none 0 0, .int .i64 0, .int .i64 0, .slice none 0 0]) 5 72 Tryz.underlying24 Tryz.infoPr rfl (by omega) (by omega) _ qs OL.out.row rfl _ 1 1 [((y.id, p.left, p.right), (A1, m1, c1), (A4, m4, c4))] (Sl.lit _ rfl rfl encQ_len rfl) encQ_len encQ_one rfl (by omega) (by omega) zl ?_); intro v9 w9 own9 ch0 ch1 _)
      have O9 := OWN.out.app2 (p := ⟨y.id, p.left, p.right, p.known, p.near⟩) (hk := (A1, m1, c1)) (hn := (A4, m4, c4)) (by decide) (by decide) zo OL.out okl.out onl.out own9 ch0
      exact ⟨⟨j + 1, _, P ++ [⟨y.id, p.left, p.right, p.known, p.near⟩], by omega, by go_num, O9, by simp [hPl], SN.out, FEW.out.snoc dl.out, TP.chg Tl ch1 (fun x hx => by omega), Chg.trans KL.out (ch1.mono (fun x hx => hx.1))⟩, by simp [intOf]; omega⟩
    · obtain rfl : j = na := by omega
      obtain ⟨aV, cV, rfl, _, _, _, hVg, _⟩ := OWN.out.pl
      rw [hPl] at OWN ⊢
      have SI : Hid (SameIds l P) := Lib.hid ⟨by rw [hPl]; exact HLN.out.symm, HIDS.out⟩
      have HVG : Hid (1 ≤ j → ∃ g, aV = some ⟨g, 0, none⟩ ∧ w.heap.size ≤ g) := Lib.hid (fun h1 => hVg (fun hP => by rw [hP] at hPl; simp at hPl; omega))
      have FEW1 : Hid (FewQ (3 + 1) (ht + 1 + 1) P) := Lib.hid (fun p hp => by have := FEW.out p hp; omega)
      clear HIDS hVg hjn hj zo
      go_wp2_with fail
      go_loopw [10] (fun i wr => JoBRel (ht + 1) b j l (.slice aV j cV) w i wr) (fun i _ => j + 1 - (intOf i).toNat)
      case atStart => exact ⟨1, qs, P, by omega, by omega, rfl, OWN.out, SI.out, FEW1.out, T, KW.out⟩
      case round =>
        clear T OWN SI FEW FEW1 KW
        obtain ⟨k, qs, P, hk1, hk, rfl, own, si, few, T, kw⟩ := hrel
        obtain ⟨wo, rfl⟩ : ∃ wo : World, wo = wr := ⟨_, rfl⟩
        have OWN := Lib.hid own
        have SI := Lib.hid si
        have FEW := Lib.hid few
        have KW := Lib.hid kw
        clear own si few kw
        by_cases hkn : k < j
        · obtain ⟨g, hge, hg⟩ := HVG.out (by omega)
          subst hge
          go_wp2_with fail
          (refine (next_t k _ T (by omega) (by omega)).mono ?_)
          clear T
          rintro e w5 ⟨r, rfl, hr0, hr1, T, kk⟩
          obtain ⟨r, rfl⟩ : ∃ t : Nat, r = t := ⟨r.toNat, by omega⟩
          replace KW := Lib.hid (KW.out.nxb kk)
          replace OWN := Lib.hid (OWN.out.nxb hbw kk)
          clear kk
          go_wp2_with fail
          (refine (bool_t 2 _ T (by omega) (by omega)).mono ?_)
          clear T
          rintro e w6 ⟨rb, rfl, T, kk⟩
          replace KW := Lib.hid (KW.out.nxb kk)
          replace OWN := Lib.hid (OWN.out.nxb hbw kk)
          clear kk
          go_upto_if 46 with fail
          go_cut [11, 12] from 47 to 89 (fun s11 s12 wx => JoXCut b j w6 s11 s12 wx)
          case first =>
            cases rb with
            | true =>
              have CUT := Lib.hid (show JoXCut b j w6 (.int .i64 r) (.int .i64 k) w6 from ⟨r, k, rfl, rfl, by omega, hkn, T, Exb.refl _ _⟩)
              clear T
              go_wp2_with fail
              go_meet
              exact CUT.out
            | false =>
              have CUT := Lib.hid (show JoXCut b j w6 (.int .i64 k) (.int .i64 r) w6 from ⟨k, r, rfl, rfl, hkn, by omega, T, Exb.refl _ _⟩)
              clear T
              go_wp2_with fail
              go_meet
              exact CUT.out
          case rest =>
            clear T
            rename World => w7
            obtain ⟨x, y, rfl, rfl, hx, hy, T, k7⟩ := hcut
            replace KW := Lib.hid (KW.out.nxb k7)
            replace OWN := Lib.hid (OWN.out.nxb hbw k7)
            obtain ⟨xl, ol, nd, rfl, hxl, hnd, hcl⟩ := Rd.at (HS.out.nxb KW.out) (j := y) hy
            have e0 : w7.cell? ⟨xl, ol + y * 3, none⟩ = some (.int .i64 nd.id) := hcl 0 _ rfl
            clear k7 hcl hnd
            go_wp2_with fail
            (refine (next_t 4 _ T (by omega) (by omega)).mono ?_)
            clear T
            rintro e w8 ⟨q, rfl, hq0, hq1, T, kk⟩
            replace KW := Lib.hid (KW.out.nxb kk)
            have own8 := OWN.out.nxb hbw kk
            clear kk e0 OWN
            have hlP : P.length = j := by rw [SI.out.1, HLN.out]
            obtain ⟨p, hp⟩ : ∃ p, P[x]? = some p := ⟨P[x]'(by omega), by simp⟩
            obtain ⟨⟨A1, m1, c1⟩, ⟨A4, m4, c4⟩, hq, ok, on⟩ := own8.get hp
            have fp := FEW.out p (List.mem_of_getElem? hp)
            have zbg : b < g := by omega
            have z8 := KW.out.size
            have FS : Hid (∀ p' : Pr, p'.known.length ≤ p.known.length + 1 → p'.near.length ≤ p.near.length + 1 → FewQ (3 + (k + 1)) (ht + 1 + (k + 1)) (P.set x p')) := Lib.hid (fun p' h1 h2 => FEW.out.set (by omega) (by omega) (by omega))
            have SS : Hid (∀ p' : Pr, p'.id = p.id → SameIds l (P.set x p')) := Lib.hid (fun p' h1 => same_set SI.out hp h1)
            rcases (show q = 0 ∨ q = 1 ∨ (q ≠ 0 ∧ q ≠ 1) by omega) with rfl | rfl | ⟨hqa, hqb⟩
            · obtain ⟨s1, s2, O9⟩ := own8.num (by decide) (by decide) (p' := { p with left := nd.id }) (c := 2) (x := nd.id) hq hp (by omega) rfl rfl rfl
              have s1' : w8.cell? ⟨g, x * 5 + 2, none⟩ = some (.int .i64 p.left) := s1
              have RR := Lib.hid (show JoBRel (ht + 1) b j l (.slice (some ⟨g, 0, none⟩) j cV) w (.int .i64 ((k : Int) + 1)) (w8.setCell ⟨g, x * 5 + 2, none⟩ (.int .i64 nd.id)) from
                ⟨k + 1, _, _, by omega, by omega, by go_num, O9, SS.out _ rfl, FS.out _ (by simp) (by simp), T.set (p := ⟨g, x * 5 + 2, none⟩) _ zbg, KW.out.setNew (p := ⟨g, x * 5 + 2, none⟩) _ hg⟩)
              clear s1 O9 own8 hq hp ok on T
              go_wp2_with fail
              exact ⟨RR.out, by simp [intOf]; omega⟩
            · have s4 : w8.cell? ⟨g, x * 5 + 4, none⟩ = some (.slice A4 m4 c4) := (OwnW.set1 encQ_len own8.1 hq (c := 4) (by omega)).1
              have kl := Ex.new w8 (.cells #[.int .i64 0, .int .i64 0, .int .i64 0, .int .i64 nd.id] 49)
              have on9 := on.nx kl
              have OW9 := Lib.hid (own8.nx kl)
              have zb := Nat.le_trans z8 kl.size
              have T9 := Lib.hid (T.nx kl)
              have K9 := Lib.hid (KW.out.nxb (kl.b b))
              simp only [Hdr.val] at on9
              clear own8 ok on T
              go_wp2_with (at_builtin; (refine wpList_append_rda (enc := encNr) _ rfl _ _ 43 rfl w.heap.size 49 (.agg #[.int .i64 0, .int .i64 0, .int .i64 0, .int .i64 0]) 4 32 Tryz.underlying43 Tryz.infoNr rfl (by omega) (by omega) _ p.near on9 rfl _ _ 1 1 [(0, 0, 0, nd.id)] (Sl.lit _ rfl rfl (fun _ => rfl) rfl) (fun h => by cases h) (fun _ => rfl) (by simp [encNr, Value.oneCell']) rfl (by omega) (by omega) zb ?_); intro va w1 A ch0 ch1 hva; obtain ⟨A9, C9, e9, _, _, _, _⟩ := A.rd (fun _ => rfl); generalize (p.near ++ [(0, 0, 0, nd.id)]).length = L9 at e9; subst e9; obtain ⟨s1, s2, O9⟩ := OW9.out.growN (hn' := (A9, L9, C9)) (by decide) (by decide) (by decide) hq hp A ch0 (show ∀ g, (Value.slice A9 L9 C9).ownBlock = some g → (Hdr.val (A4, m4, c4)).ownBlock = some g ∨ _ from own_hist hva (Nat.le_refl _)); simp only [Hdr.val] at s1 O9; replace O9 := Lib.hid O9)
              have RR := Lib.hid (show JoBRel (ht + 1) b j l (.slice (some ⟨g, 0, none⟩) j cV) w (.int .i64 ((k : Int) + 1)) (w1.setCell ⟨g, x * 5 + 4, none⟩ (.slice A9 L9 C9)) from
                ⟨k + 1, _, _, by omega, by omega, by go_num, O9.out, SS.out { p with near := (p.near ++ [(0, 0, 0, nd.id)]) } rfl, FS.out { p with near := (p.near ++ [(0, 0, 0, nd.id)]) } (by simp) (by simp), (show TK w1 b from TP.chg T9.out ch1 (fun x hx => by omega)).set (p := ⟨g, x * 5 + 4, none⟩) _ zbg, (show Exb b w w1 from Chg.trans K9.out (ch1.mono (fun x hx => hx.1))).setNew (p := ⟨g, x * 5 + 4, none⟩) _ hg⟩)
              exact ⟨RR.out, by simp [intOf]; omega⟩
            · have d0 : (q == 0) = false := by simpa using hqa
              have d1 : (q == 1) = false := by simpa using hqb
              have s4 : w8.cell? ⟨g, x * 5 + 1, none⟩ = some (.slice A1 m1 c1) := (OwnW.set1 encQ_len own8.1 hq (c := 1) (by omega)).1
              have kl := Ex.new w8 (.cells #[.int .i64 nd.id] 3)
              have ok9 := ok.nx kl
              have OW9 := Lib.hid (own8.nx kl)
              have zb := Nat.le_trans z8 kl.size
              have T9 := Lib.hid (T.nx kl)
              have K9 := Lib.hid (KW.out.nxb (kl.b b))
              simp only [Hdr.val] at ok9
              clear own8 ok on T hqa hqb
              go_wp2_with (at_builtin; (refine wpList_append_rda (enc := encI) _ rfl _ _ 22 rfl w.heap.size 3 (.int .i64 0) 1 8 Tryz.underlying22 Tryz.infoI6 rfl (by omega) (by omega) _ p.known ok9 rfl _ _ 1 1 [nd.id] (Sl.lit _ rfl rfl (fun _ => rfl) rfl) (fun h => by cases h) (fun _ => rfl) (by simp [encI, Value.oneCell']) rfl (by omega) (by omega) zb ?_); intro va w1 A ch0 ch1 hva; obtain ⟨A9, C9, e9, _, _, _, _⟩ := A.rd (fun _ => rfl); generalize (p.known ++ [nd.id]).length = L9 at e9; subst e9; obtain ⟨s1, s2, O9⟩ := OW9.out.growK (hk' := (A9, L9, C9)) (by decide) (by decide) (by decide) hq hp A ch0 (show ∀ g, (Value.slice A9 L9 C9).ownBlock = some g → (Hdr.val (A1, m1, c1)).ownBlock = some g ∨ _ from own_hist hva (Nat.le_refl _)); simp only [Hdr.val] at s1 O9; replace O9 := Lib.hid O9)
              have RR := Lib.hid (show JoBRel (ht + 1) b j l (.slice (some ⟨g, 0, none⟩) j cV) w (.int .i64 ((k : Int) + 1)) (w1.setCell ⟨g, x * 5 + 1, none⟩ (.slice A9 L9 C9)) from
                ⟨k + 1, _, _, by omega, by omega, by go_num, O9.out, SS.out { p with known := (p.known ++ [nd.id]) } rfl, FS.out { p with known := (p.known ++ [nd.id]) } (by simp) (by simp), (show TK w1 b from TP.chg T9.out ch1 (fun x hx => by omega)).set (p := ⟨g, x * 5 + 1, none⟩) _ zbg, (show Exb b w w1 from Chg.trans K9.out (ch1.mono (fun x hx => hx.1))).setNew (p := ⟨g, x * 5 + 1, none⟩) _ hg⟩)
              exact ⟨RR.out, by simp [intOf]; omega⟩
        · obtain ⟨aX, cX, hXe, PX, _, _, _, _⟩ := OWN.out.pl
          have hlP : P.length = j := by rw [SI.out.1, HLN.out]
          rw [hlP] at hXe PX
          injection hXe with hx1 hx2 hx3
          subst hx1 hx3
          have HP := Lib.hid PX
          have KS := KW.out.size
          clear PX hx2
          have FC : Hid (∀ p ∈ P, p.known.length ≤ 2000000 ∧ p.near.length ≤ 2000000) := Lib.hid (fun p hp => by have := FEW.out p hp; omega)
          go_wp2_with fail
          (with_reducible refine (connected_r _ _ _ l _ _ _ P _ (HS.out.nxb KW.out).sl (by omega) HP.out (by omega) FC.out).mono ?_)
          rintro e w6 ⟨rfl, kk⟩
          have OWN6 := Lib.hid (OWN.out.nx kk)
          have KW6 := Lib.hid (KW.out.nxb (kk.b b))
          have T6 := T.nx kk
          clear kk OWN KW T HP KS
          cases hcb : connB l P with
          | true =>
            have FIN := Lib.hid (show JoOf b l w w6 (.slice aV j cV) qs P from ⟨OWN6.out, SI.out, connB_iff.1 hcb, fun p hp => by have := FEW.out p hp; omega, T6, KW6.out⟩)
            clear hcb T6
            go_wp2_with fail
            go_ret
            exact ⟨_, qs, P, rfl, FIN.out⟩
          | false =>
            have m0 : ∃ m0, m0 = 3 + k := ⟨_, rfl⟩
            obtain ⟨m0, hm0⟩ := m0
            obtain ⟨M0, hM0⟩ : ∃ M0, M0 = ht + 1 + k := ⟨_, rfl⟩
            have FEW3 : Hid (FewQ (m0 + 1) M0 P) := Lib.hid (fun p hp => by have := FEW.out p hp; omega)
            have hm25 : m0 ≤ 24 := by omega
            have hM200 : M0 ≤ 200 := by omega
            clear hcb FEW hm0 hM0
            go_wp2_with fail
            go_loopw [14] (fun i wr => JoCRel b j m0 M0 l (.slice aV j cV) w i wr) (fun i _ => j + 1 - (intOf i).toNat)
            case atStart => exact ⟨1, qs, P, by omega, by omega, rfl, OWN6.out, SI.out, fun i x p h => by omega, FEW3.out, T6, KW6.out⟩
            case round =>
              clear T6 OWN6 SI FEW3 KW6 hk hk1 hkn
              obtain ⟨k, qs, P, hk1, hk, rfl, own, si, hch, few, T, kw⟩ := hrel
              obtain ⟨wo, rfl⟩ : ∃ wo : World, wo = wr := ⟨_, rfl⟩
              have OWN := Lib.hid own
              have SI := Lib.hid si
              have CH := Lib.hid hch
              have FEW := Lib.hid few
              have KW := Lib.hid kw
              have TH := Lib.hid T
              clear own si few kw hch T
              have hlP : P.length = j := by rw [SI.out.1, HLN.out]
              by_cases hkn : k < j
              · obtain ⟨g, hge, hg⟩ := HVG.out (by omega)
                subst hge
                obtain ⟨xl, ol, nd, rfl, hxl, hnd, hcl⟩ := Rd.at (HS.out.nxb KW.out) (j := k - 1) (by omega)
                have CL : Hid (∀ wq, Ex wo wq → wq.cell? ⟨xl, ol + (k - 1) * 3, none⟩ = some (.int .i64 nd.id)) := Lib.hid (fun wq kq => Chg.cellv kq (hcl 0 _ rfl) hxl.1)
                obtain ⟨p, hp⟩ : ∃ p, P[k]? = some p := ⟨P[k]'(by omega), by simp⟩
                obtain ⟨⟨A1, m1, c1⟩, hn, hq, ok, on⟩ := OWN.out.get hp
                have fp := FEW.out p (List.mem_of_getElem? hp)
                have s4 : wo.cell? ⟨g, k * 5 + 1, none⟩ = some (.slice A1 m1 c1) := (OwnW.set1 encQ_len OWN.out.1 hq (c := 1) (by omega)).1
                have hgo : g < wo.heap.size := OwnW.blk_lt OWN.out.1 rfl
                have CR : Hid (∀ wq, Ex wo wq → wq.cell? ⟨g, k * 5 + 1, none⟩ = some (.slice A1 m1 c1)) := Lib.hid (fun wq kq => Chg.cellv kq s4 hgo)
                have FS : Hid (FewQ (m0 + (k + 1)) M0 (P.set k { p with known := p.known ++ [nd.id] })) := Lib.hid (FEW.out.set (by omega) (by omega) ⟨by simp; omega, by simp; omega⟩)
                have SS : Hid (SameIds l (P.set k { p with known := p.known ++ [nd.id] })) := Lib.hid (same_set SI.out hp rfl)
                have CS : Hid (∀ (i : Nat) (x : Nd) (q : Pr), i + 1 < k + 1 → l[i]? = some x → (P.set k { p with known := p.known ++ [nd.id] })[i + 1]? = some q → x.id ∈ q.known) := Lib.hid (fun i x q hi hx hq => by
                  by_cases hik : i + 1 = k
                  · subst hik
                    rw [List.getElem?_set_self (by omega)] at hq
                    cases hq
                    rw [Nat.add_sub_cancel] at hnd
                    rw [Option.some.inj (hx.symm.trans hnd)]
                    simp
                  · rw [List.getElem?_set_ne (fun h => hik h.symm)] at hq
                    exact CH.out i x q (by omega) hx hq)
                have hwk : IntKind.i64.wrap ((k : Int) - 1) = (k : Int) - 1 := IntWalk.i64_in _ (by omega)
                have h01 : (1 : Int) ≤ (k : Int) := by omega
                have h02 : (k : Int) - 1 < (j : Int) := by omega
                have h03 : (k : Int) < (j : Int) := by omega
                have zbg : b < g := by omega
                have zo := KW.out.size
                have OK := Lib.hid ok
                have HQ := Lib.hid hq
                have HP := Lib.hid hp
                clear hcl hnd hp hq ok on s4 hxl
                go_upto_region 25 with fail
                refine wp_region_late_drew (S := Ex wo) [14, 15, 16, 17] (by kernel_rfl) ((Ex.refl wo).drew) (fun hHeld => ?_)
                obtain ⟨wd, hwdx⟩ : ∃ wd : World, wd = World.drew wo := ⟨_, rfl⟩
                rw [← hwdx] at hHeld ⊢
                have hDrew : Ex wo wd := by rw [hwdx]; exact (Ex.refl wo).drew
                clear hwdx
                refine wpAnyL_takeP (i := 0) (oi := ⟨some 100, .move (.tmp 7), 24, "tape.go:289", #[], none⟩) (v := ?_) rfl (by kernel_rfl) (by kernel_rfl) (by kernel_rfl) (fun _ _ _ h => h) (Or.inl ⟨by rfl, ?hyr1x0q5⟩) ?restr1x0q5
                case hyr1x0q5 => intro wq hSw; (go_simp); (try with_reducible rfl)
                try simp only [Act.put, List.setIfInBounds_toArray, List.set_cons_zero, List.set_cons_succ]
                refine wpAnyL_takeP (i := 1) (oi := ⟨some 101, .move (.tmp 14), 3, "tape.go:289", #[], none⟩) (v := ?_) rfl (by kernel_rfl) (by kernel_rfl) (by kernel_rfl) (fun _ _ _ h => h) (Or.inl ⟨by rfl, ?hyr1x1q8⟩) ?restr1x1q8
                case hyr1x1q8 => intro wq hSw; (go_simp); (try with_reducible rfl)
                try simp only [Act.put, List.setIfInBounds_toArray, List.set_cons_zero, List.set_cons_succ]
                refine wpAnyL_take (i := 2) (oi := ⟨some 102, .move (.tmp 7), 24, "tape.go:289", #[], none⟩) (v := ?_) rfl (by kernel_rfl) (by kernel_rfl) (by kernel_rfl) (fun _ _ _ h => h) (Or.inl ⟨by rfl, ?hyr1x2q11⟩) (by kernel_rfl) (by kernel_rfl) (by assumption) ?restr1x2q11
                case hyr1x2q11 => intro wq hSw; (go_simp); (try with_reducible rfl)
                try simp only [Act.put, List.setIfInBounds_toArray, List.set_cons_zero, List.set_cons_succ]
                refine wpAnyL_take (i := 3) (oi := ⟨some 103, .move (.tmp 14), 3, "tape.go:289", #[], none⟩) (v := ?_) rfl (by kernel_rfl) (by kernel_rfl) (by kernel_rfl) (fun _ _ _ h => h) (Or.inl ⟨by rfl, ?hyr1x3q14⟩) (by kernel_rfl) (by kernel_rfl) (by assumption) ?restr1x3q14
                case hyr1x3q14 => intro wq hSw; (go_simp); (try with_reducible rfl)
                try simp only [Act.put, List.setIfInBounds_toArray, List.set_cons_zero, List.set_cons_succ]
                refine wpAnyL_take (i := 4) (oi := ⟨some 104, .indexAddr 24 (.tmp 102) (.tmp 103), 0, "tape.go:289", #[⟨2, .data⟩, ⟨3, .data⟩], none⟩) (v := ?_) rfl (by kernel_rfl) (by kernel_rfl) (by kernel_rfl) (fun _ _ _ h => h) (Or.inl ⟨by rfl, ?hyr1x4q17⟩) (by kernel_rfl) (by kernel_rfl) (by assumption) ?restr1x4q17
                case hyr1x4q17 => intro wq hSw; (go_simp); (try with_reducible rfl)
                try simp only [Act.put, List.setIfInBounds_toArray, List.set_cons_zero, List.set_cons_succ]
                refine wpAnyL_take (i := 5) (oi := ⟨some 105, .fieldAddr 45 (.tmp 104) 1, 0, "tape.go:289", #[⟨4, .data⟩], none⟩) (v := ?_) rfl (by kernel_rfl) (by kernel_rfl) (by kernel_rfl) (fun _ _ _ h => h) (Or.inl ⟨by rfl, ?hyr1x5q20⟩) (by kernel_rfl) (by kernel_rfl) (by assumption) ?restr1x5q20
                case hyr1x5q20 => intro wq hSw; (go_simp); (try with_reducible rfl)
                try simp only [Act.put, List.setIfInBounds_toArray, List.set_cons_zero, List.set_cons_succ]
                refine wpAnyL_take (i := 6) (oi := ⟨some 106, .load 22 (.tmp 105), 22, "tape.go:289", #[⟨5, .data⟩], none⟩) (v := ?_) rfl (by kernel_rfl) (by kernel_rfl) (by kernel_rfl) (fun _ _ _ h => h) (Or.inl ⟨by rfl, ?hyr1x6q23⟩) (by kernel_rfl) (by kernel_rfl) (by assumption) ?restr1x6q23
                case hyr1x6q23 => intro wq hSw; (have cq := CR.out wq hSw; go_simp); (try with_reducible rfl)
                try simp only [Act.put, List.setIfInBounds_toArray, List.set_cons_zero, List.set_cons_succ]
                refine wpAnyL_take (i := 7) (oi := ⟨some 107, .move (.tmp 1), 23, "tape.go:289", #[], none⟩) (v := ?_) rfl (by kernel_rfl) (by kernel_rfl) (by kernel_rfl) (fun _ _ _ h => h) (Or.inl ⟨by rfl, ?hyr1x7q26⟩) (by kernel_rfl) (by kernel_rfl) (by assumption) ?restr1x7q26
                case hyr1x7q26 => intro wq hSw; (go_simp); (try with_reducible rfl)
                try simp only [Act.put, List.setIfInBounds_toArray, List.set_cons_zero, List.set_cons_succ]
                refine wpAnyL_take (i := 8) (oi := ⟨some 108, .move (.tmp 14), 3, "tape.go:289", #[], none⟩) (v := ?_) rfl (by kernel_rfl) (by kernel_rfl) (by kernel_rfl) (fun _ _ _ h => h) (Or.inl ⟨by rfl, ?hyr1x8q29⟩) (by kernel_rfl) (by kernel_rfl) (by assumption) ?restr1x8q29
                case hyr1x8q29 => intro wq hSw; (go_simp); (try with_reducible rfl)
                try simp only [Act.put, List.setIfInBounds_toArray, List.set_cons_zero, List.set_cons_succ]
                refine wpAnyL_take (i := 9) (oi := ⟨some 109, .binOp .sub 3 (.tmp 108) (.const (.int .i64 1)) 3, 3, "tape.go:289", #[⟨8, .data⟩], none⟩) (v := ?_) rfl (by kernel_rfl) (by kernel_rfl) (by kernel_rfl) (fun _ _ _ h => h) (Or.inl ⟨by rfl, ?hyr1x9q32⟩) (by kernel_rfl) (by kernel_rfl) (by assumption) ?restr1x9q32
                case hyr1x9q32 => intro wq hSw; (go_simp); (try with_reducible rfl)
                try simp only [Act.put, List.setIfInBounds_toArray, List.set_cons_zero, List.set_cons_succ]
                refine wpAnyL_take (i := 10) (oi := ⟨some 110, .indexAddr 23 (.tmp 107) (.tmp 109), 0, "tape.go:289", #[⟨7, .data⟩, ⟨9, .data⟩], none⟩) (v := ?_) rfl (by kernel_rfl) (by kernel_rfl) (by kernel_rfl) (fun _ _ _ h => h) (Or.inl ⟨by rfl, ?hyr1x10q35⟩) (by kernel_rfl) (by kernel_rfl) (by assumption) ?restr1x10q35
                case hyr1x10q35 => intro wq hSw; (go_simp); (try with_reducible rfl)
                try simp only [Act.put, List.setIfInBounds_toArray, List.set_cons_zero, List.set_cons_succ]
                refine wpAnyL_take (i := 11) (oi := ⟨some 111, .fieldAddr 57 (.tmp 110) 0, 0, "tape.go:289", #[⟨10, .data⟩], none⟩) (v := ?_) rfl (by kernel_rfl) (by kernel_rfl) (by kernel_rfl) (fun _ _ _ h => h) (Or.inl ⟨by rfl, ?hyr1x11q38⟩) (by kernel_rfl) (by kernel_rfl) (by assumption) ?restr1x11q38
                case hyr1x11q38 => intro wq hSw; (go_simp); (try with_reducible rfl)
                try simp only [Act.put, List.setIfInBounds_toArray, List.set_cons_zero, List.set_cons_succ]
                refine wpAnyL_take (i := 12) (oi := ⟨some 112, .load 3 (.tmp 111), 3, "tape.go:289", #[⟨11, .data⟩], none⟩) (v := ?_) rfl (by kernel_rfl) (by kernel_rfl) (by kernel_rfl) (fun _ _ _ h => h) (Or.inl ⟨by rfl, ?hyr1x12q41⟩) (by kernel_rfl) (by kernel_rfl) (by assumption) ?restr1x12q41
                case hyr1x12q41 => intro wq hSw; (have cq := CL.out wq hSw; go_simp); (try with_reducible rfl)
                try simp only [Act.put, List.setIfInBounds_toArray, List.set_cons_zero, List.set_cons_succ]
                refine wpAnyL_ready (rs := [13]) (by kernel_rfl) (by simp) ?_
                refine AllReadyL.cons (o := ⟨some 113, .buildSlice 22 1 #[(0, .tmp 112)], 22, "tape.go:289", #[⟨12, .data⟩], none⟩) rfl (fun K hK => ?_) AllReadyL.nil
                go_simp
                obtain ⟨g8, wq, hg8, hwq, SX, kk⟩ := litF hHeld.size nd.id
                rw [← hg8, ← hwq]
                clear hg8 hwq
                replace hHeld := hHeld.nx kk
                clear kk
                refine hK.out _ _ (hHeld) (fun hHeld => ?_)
                clear hK K
                try simp only [Act.put, List.setIfInBounds_toArray, List.set_cons_zero, List.set_cons_succ]
                refine wpAnyL_ready (rs := [14]) (by kernel_rfl) (by simp) ?_
                refine AllReadyL.consL (o := ⟨some 114, .call { callee := .builtin .append, args := #[.tmp 106, .tmp 113], argTypes := #[22, 22] }, 22, "tape.go:289", #[⟨6, .data⟩, ⟨13, .data⟩], none⟩) rfl (by rfl) (fun K hK => ?_) AllReadyL.nil
                rw [if_pos (by rfl)]
                have rx := OK.out.nx hHeld
                simp only [Hdr.val] at rx
                have zbase := Nat.le_trans zo hHeld.size
                refine wp_append_rda (enc := encI) _ (.tmp 106) (.tmp 113) 22 rfl w.heap.size 3 (.int .i64 0) 1 8 Tryz.underlying22 Tryz.infoI6 rfl (by omega) (by omega) _ p.known rx rfl _ _ 1 1 [nd.id] SX (fun h => by cases h) (fun _ => rfl) (by simp [encI, Value.oneCell']) rfl (by omega) (by omega) zbase ?_
                intro va w1 A ch0 ch1 hva
                obtain ⟨A9, C9, e9, _, _, _, _⟩ := A.rd (fun _ => rfl)
                generalize (p.known ++ [nd.id]).length = L9 at e9
                subst e9
                obtain ⟨s1, s2, O9⟩ := (OWN.out.nx hHeld).growK (hk' := (A9, L9, C9)) (by decide) (by decide) (by decide) HQ.out HP.out A ch0 (show ∀ g, (Value.slice A9 L9 C9).ownBlock = some g → (Hdr.val (A1, m1, c1)).ownBlock = some g ∨ _ from own_hist hva (Nat.le_refl _))
                simp only [Hdr.val] at s1 O9
                replace O9 := Lib.hid O9
                refine hK.out _ _ ?_
                clear hK K
                try simp only [Act.put, List.setIfInBounds_toArray, List.set_cons_zero, List.set_cons_succ]
                refine wpAnyL_ready (rs := [15]) (by kernel_rfl) (by simp) ?_
                refine AllReadyL.consL (o := ⟨some 115, .indexAddr 24 (.tmp 100) (.tmp 101), 0, "tape.go:289", #[⟨0, .data⟩, ⟨1, .data⟩, ⟨0, .phase⟩, ⟨1, .phase⟩, ⟨2, .phase⟩, ⟨3, .phase⟩, ⟨4, .phase⟩, ⟨5, .phase⟩, ⟨6, .phase⟩, ⟨7, .phase⟩, ⟨8, .phase⟩, ⟨9, .phase⟩, ⟨10, .phase⟩, ⟨11, .phase⟩, ⟨12, .phase⟩, ⟨13, .phase⟩, ⟨14, .phase⟩], none⟩) rfl (by rfl) (fun K hK => ?_) AllReadyL.nil
                go_simp
                refine hK.out _ _ ?_
                clear hK K
                try simp only [Act.put, List.setIfInBounds_toArray, List.set_cons_zero, List.set_cons_succ]
                refine wpAnyL_ready (rs := [16]) (by kernel_rfl) (by simp) ?_
                refine AllReadyL.consL (o := ⟨some 116, .fieldAddr 45 (.tmp 115) 1, 0, "tape.go:289", #[⟨15, .data⟩, ⟨0, .phase⟩, ⟨1, .phase⟩, ⟨2, .phase⟩, ⟨3, .phase⟩, ⟨4, .phase⟩, ⟨5, .phase⟩, ⟨6, .phase⟩, ⟨7, .phase⟩, ⟨8, .phase⟩, ⟨9, .phase⟩, ⟨10, .phase⟩, ⟨11, .phase⟩, ⟨12, .phase⟩, ⟨13, .phase⟩, ⟨14, .phase⟩], none⟩) rfl (by rfl) (fun K hK => ?_) AllReadyL.nil
                go_simp
                refine hK.out _ _ ?_
                clear hK K
                try simp only [Act.put, List.setIfInBounds_toArray, List.set_cons_zero, List.set_cons_succ]
                refine wpAnyL_ready (rs := [17]) (by kernel_rfl) (by simp) ?_
                refine AllReadyL.consL (o := ⟨none, .store 22 (.tmp 116) (.tmp 114), 0, "tape.go:289", #[⟨16, .data⟩, ⟨14, .data⟩, ⟨14, .chain⟩, ⟨0, .phase⟩, ⟨1, .phase⟩, ⟨2, .phase⟩, ⟨3, .phase⟩, ⟨4, .phase⟩, ⟨5, .phase⟩, ⟨6, .phase⟩, ⟨7, .phase⟩, ⟨8, .phase⟩, ⟨9, .phase⟩, ⟨10, .phase⟩, ⟨11, .phase⟩, ⟨12, .phase⟩, ⟨13, .phase⟩, ⟨14, .phase⟩], none⟩) rfl (by rfl) (fun K hK => ?_) AllReadyL.nil
                go_simp
                refine hK.out _ _ ?_
                clear hK K
                try simp only [Act.put, List.setIfInBounds_toArray, List.set_cons_zero, List.set_cons_succ]
                refine wpAnyL_done (by kernel_rfl) ?_ _
                have RR := Lib.hid (show JoCRel b j m0 M0 l (.slice (some ⟨g, 0, none⟩) j cV) w (.int .i64 ((k : Int) + 1)) (w1.setCell ⟨g, k * 5 + 1, none⟩ (.slice A9 L9 C9)) from
                  ⟨k + 1, _, _, by omega, by omega, by go_num, O9.out, SS.out, CS.out, FS.out, (show TK w1 b from TP.chg (TH.out.nx hHeld) ch1 (fun x hx => by omega)).set (p := ⟨g, k * 5 + 1, none⟩) _ zbg, (show Exb b w w1 from Chg.trans (KW.out.nxb (hHeld.b b)) (ch1.mono (fun x hx => hx.1))).setNew (p := ⟨g, k * 5 + 1, none⟩) _ hg⟩)
                clear ch0 ch1 hva rx hHeld SX s1 s2 A
                go_wp2_with fail
                exact ⟨RR.out, by simp [intOf]; omega⟩
              · have hjk : j ≤ k := by omega
                have FIN := Lib.hid (show JoOf b l w wo (.slice aV j cV) qs P from ⟨OWN.out, SI.out, back_conn H0.out SI.out (fun i x p hx hp => CH.out i x p (by have := (List.getElem?_eq_some_iff.1 hp).1; omega) hx hp), fun p hp => by have := FEW.out p hp; omega, TH.out, KW.out⟩)
                go_wp2_with fail
                go_ret
                exact ⟨_, qs, P, rfl, FIN.out⟩
end Go.Proofs.YtbnbjiddffihoaaGreatDoor

/- The walk over BridgeClimbs. -/
namespace Go.Proofs.YtbnbjiddffihoaaGreatDoor
open Go.RowKit

theorem normal_few {N : List Nd} {P : List Pr} {m M : Nat} (h : FewQ m M P) : FewQ m M (normalN N P) := by
  intro q hq
  unfold normalN at hq
  split at hq
  · obtain ⟨x, _, rfl⟩ := List.mem_map.1 hq
    unfold peerN
    cases hf : P.find? fun p => p.id == x.id with
    | none => exact ⟨Nat.zero_le _, Nat.zero_le _⟩
    | some q => exact h q (List.mem_of_find?_eq_some hf)
  · cases hq
theorem bround_few {N : List Nd} {P : List Pr} (h : FewQ 100 200 P) {ht : Nat} (hh : ht ≤ 16) : FewQ 100 200 (bRoundN N P (ht : Int)) := by
  intro p hp
  rw [bround_eq hh] at hp
  obtain ⟨q, hq, rfl⟩ := List.mem_map.1 hp
  refine ⟨(normal_few h q hq).1, ?_⟩
  show (nextB N _ q ht).length ≤ 200
  rw [nextB_len]
  omega
theorem bround_len {N : List Nd} {P : List Pr} (h0 : checkN N = 0) {ht : Nat} (hh : ht ≤ 16) : (bRoundN N P (ht : Int)).length = N.length := by
  rw [broundN_map h0 hh, List.length_map, sortN_length]
theorem few_smallB {P : List Pr} (h : FewQ 100 200 P) : SmallP P := fun p hp => by have := h p hp; omega
end Go.Proofs.YtbnbjiddffihoaaGreatDoor

/- The walk over BridgeKeeps. -/
namespace Go.Proofs.YtbnbjiddffihoaaGreatDoor
open Go.RowKit

theorem other_same {N : List Nd} (h0 : checkN N = 0) (z own : Int) : otherN N (otherN N z own) own = otherN N z own := by
  by_cases h : (findN N z).2 = true ∧ z ≠ own
  · have e : otherN N z own = z := by unfold otherN; rw [if_pos h]
    rw [e, e]
  · have e : otherN N z own = 0 := by unfold otherN; rw [if_neg h]
    rw [e, other_zero h0]
def Fixd (N : List Nd) (own v : Int) : Prop := otherN N v own = v
theorem fixd_other {N : List Nd} (h0 : checkN N = 0) (z own : Int) : Fixd N own (otherN N z own) := other_same h0 z own
theorem fixd_find {N : List Nd} (h0 : checkN N = 0) {nb own : Int} (h : Fixd N own nb) (hf : (findN N nb).2 = true) : Fixd N own (findN N nb).1.id := by
  rw [(findN_mem hf).2]; exact h
theorem fixd_link {N : List Nd} (h0 : checkN N = 0) (p : Pr) (lev : Int) : Fixd N p.id (linkB N p lev).1 ∧ Fixd N p.id (linkB N p lev).2 := by
  unfold linkB
  split
  · exact ⟨fixd_other h0 _ _, fixd_other h0 _ _⟩
  · exact ⟨other_zero h0 _, other_zero h0 _⟩
theorem fixd_pair {N : List Nd} (h0 : checkN N = 0) {own nb : Int} (h : Fixd N own nb) (lev : Nat) (zero one : Int) : Fixd N own (pairB N own nb lev zero one).1 ∧ Fixd N own (pairB N own nb lev zero one).2 := by
  unfold pairB
  split
  · rename_i hf
    split
    · exact ⟨fixd_find h0 h hf, fixd_other h0 _ _⟩
    · exact ⟨fixd_other h0 _ _, fixd_find h0 h hf⟩
  · exact ⟨other_zero h0 _, other_zero h0 _⟩
def nearL (z : Nr) : List Int := [z.1, z.2.1, z.2.2.1, z.2.2.2]
theorem fixd_step {N : List Nd} (h0 : checkN N = 0) (st : Int → Pr) (p : Pr) (i : Nat) : ∀ v ∈ nearL (stepB N st p i), Fixd N p.id v := by
  have h1 := fixd_pair h0 (fixd_link h0 p i).1 i (nearAt (st (linkB N p i).1) i).1 (nearAt (st (linkB N p i).1) i).2.1
  have h2 := fixd_pair h0 (fixd_link h0 p i).2 i (nearAt (st (linkB N p i).2) i).2.2.1 (nearAt (st (linkB N p i).2) i).2.2.2
  intro v hv
  simp only [nearL, stepB, List.mem_cons, List.not_mem_nil, or_false] at hv
  rcases hv with hv | hv | hv | hv
  · rw [hv]; exact h1.1
  · rw [hv]; exact h1.2
  · rw [hv]; exact h2.1
  · rw [hv]; exact h2.2
theorem keeps_at {N : List Nd} {P : List Pr} (h0 : checkN N = 0) {h : Nat} (hh : h ≤ 16) {i : Nat} {y : Pr} (hy : (bRoundN N P (h : Int))[i]? = some y) :
    ({ peerN P y.id with near := y.near } : Pr) = y ∧ y.near.length = h ∧ ∀ z ∈ y.near, ∀ v ∈ nearL z, Fixd N y.id v := by
  rw [broundN_map h0 hh, List.getElem?_map] at hy
  cases hx : (sortN N)[i]? with
  | none => rw [hx] at hy; cases hy
  | some x =>
    rw [hx] at hy
    simp only [Option.map_some, Option.some.injEq] at hy
    have hid : y.id = x.id := by rw [← hy]; exact peer_id P x.id
    refine ⟨by rw [hid, ← hy], by rw [← hy]; exact nextB_len _ _ _ _, fun z hz v hv => ?_⟩
    have hz2 : z ∈ nextB N (peerN P) (peerN P x.id) h := by rw [← hy] at hz; exact hz
    unfold nextB at hz2
    obtain ⟨j, _, rfl⟩ := List.mem_map.1 hz2
    have := fixd_step h0 (peerN P) (peerN P x.id) j v hv
    rw [peer_id] at this
    rw [hid]
    exact this
set_option maxHeartbeats 1000000 in
theorem other_r (a : Option Addr) (n c : Nat) (N : List Nd) (id own : Int) (w : World) (h : Sl 3 encN w a n N) (hn : n ≤ 1000) :
    Calls Tryz.prog 27 #[.slice a n c, .int .i64 id, .int .i64 own] w fun e w' => e = .returned (.int .i64 (otherN N id own)) ∧ Ex w w' := by
  have EX := Ex.refl w
  have E1 : Hid (∀ o, o = (findN N id).2 → otherN N id own = if o = true ∧ id ≠ own then id else 0) := Lib.hid (fun o ho => by rw [ho]; rfl)
  go_enter Tryz.func27, Tryz.ntmps27
  go_wp2_with fail
  (with_reducible refine (find_r _ _ _ _ id _ h (by omega)).mono ?_)
  rintro e w1 ⟨rfl, kk⟩
  replace EX := EX.nx kk
  clear kk
  replace E1 := E1.out _ rfl
  obtain ⟨F, hF⟩ : ∃ F, F = findN N id := ⟨_, rfl⟩
  rw [← hF] at E1 ⊢
  clear hF h
  obtain ⟨⟨xi, xk, xw⟩, ok⟩ := F
  replace E1 := Lib.hid E1
  have B5 := Blk.new w1 [.int .i64 xi, .string xk, .int .u32 xw] 57
  have kk := Ex.new w1 (.cells #[.int .i64 xi, .string xk, .int .u32 xw] 57)
  obtain ⟨w2, hw2⟩ : ∃ w2, w2 = w1.alloc (.cells #[.int .i64 xi, .string xk, .int .u32 xw] 57) := ⟨_, rfl⟩
  obtain ⟨g5, hg5⟩ : ∃ g5, g5 = w1.heap.size := ⟨_, rfl⟩
  replace B5 : Blk w2 g5 [.int .i64 xi, .string xk, .int .u32 xw] 57 := by rw [hw2, hg5]; exact B5
  rw [← hw2] at kk
  have Hw2 := Lib.hid hw2
  have Hg5 := Lib.hid hg5
  replace EX := EX.nx kk
  clear kk hw2 hg5
  simp only [Nd.val]
  go_upto_region 2 with fail
  rw [← Hg5.out, ← Hw2.out]
  clear Hg5 Hw2
  clear B5
  cases ok with
  | false =>
    have EZ : Hid (otherN N id own = 0) := Lib.hid (E1.out.trans (if_neg (by simp)))
    clear E1
    go_wp2_with fail
    go_ret
    exact ⟨by rw [EZ.out]; rfl, EX⟩
  | true =>
    by_cases he : id = own
    · have EZ : Hid (otherN N id own = 0) := Lib.hid (E1.out.trans (if_neg (by simp [he])))
      have d1 : (id == own) = true := by simpa using he
      clear he E1
      go_wp2_with fail
      go_ret
      exact ⟨by rw [EZ.out]; rfl, EX⟩
    · have EZ : Hid (otherN N id own = id) := Lib.hid (E1.out.trans (if_pos ⟨rfl, he⟩))
      have d1 : (id == own) = false := by simpa using he
      clear he E1
      go_wp2_with fail
      go_ret
      exact ⟨by rw [EZ.out]; rfl, EX⟩
theorem PL.sub {w : World} {x o n j : Nat} {P : List Pr} {y : Pr} (h : PL w (some ⟨x, o, none⟩) n P) (hy : P[j]? = some y) : PL w (some ⟨x, o + j * 5, none⟩) 1 [y] := by
  obtain ⟨qs, h1, h2, h3⟩ := h
  have hj := (List.getElem?_eq_some_iff.1 hy).1
  have hql := h1.len
  obtain ⟨q, hq⟩ : ∃ q, qs[j]? = some q := ⟨qs[j]'(by omega), by simp⟩
  have h4 := (h1.drop (m := j) (by omega)).take (m := 1) (by omega)
  have h5 : (qs.drop j).take 1 = [q] := by
    have hjq : j < qs.length := by omega
    rw [List.drop_eq_getElem_cons hjq, List.take_succ_cons, List.take_zero]
    rw [List.getElem?_eq_getElem hjq] at hq
    rw [Option.some.inj hq]
  rw [h5] at h4
  refine ⟨[q], h4, rfl, fun i r p hr hp => ?_⟩
  rcases i with _ | i
  · simp only [List.getElem?_cons_zero, Option.some.injEq] at hr hp
    subst hr hp
    exact h3 j _ _ hq hy
  · simp at hr
theorem PL.one {w : World} {g : Nat} {y : Pr} {A1 A4 : Option Addr} {m1 c1 m4 c4 : Nat} (h1 : Sl 1 encI w A1 m1 y.known) (h4 : Sl 4 encNr w A4 m4 y.near) (g0 : g = w.heap.size) :
    PL (w.alloc (.cells #[.int .i64 y.id, .slice A1 m1 c1, .int .i64 y.left, .int .i64 y.right, .slice A4 m4 c4] 45)) (some ⟨g, 0, none⟩) 1 [y] := by
  subst g0
  refine ⟨[(y.nums, (A1, m1, c1), (A4, m4, c4))], Sl.lit _ rfl rfl encQ_len rfl, rfl, fun i r p hr hp => ?_⟩
  rcases i with _ | i
  · simp only [List.getElem?_cons_zero, Option.some.injEq] at hr hp
    subst hr hp
    exact ⟨rfl, h1.nx (Ex.new _ _), h4.nx (Ex.new _ _)⟩
  · simp at hr
theorem litPr {w0 u : World} (_ : Ex w0 u) {y : Pr} {A1 A4 : Option Addr} {m1 c1 m4 c4 : Nat} (h1 : Sl 1 encI u A1 m1 y.known) (h4 : Sl 4 encNr u A4 m4 y.near) : ∃ g v, g = u.heap.size ∧ v = u.alloc (.cells #[.int .i64 y.id, .slice A1 m1 c1, .int .i64 y.left, .int .i64 y.right, .slice A4 m4 c4] 45) ∧ PL v (some ⟨g, 0, none⟩) 1 [y] ∧ Ex u v :=
  ⟨_, _, rfl, rfl, PL.one h1 h4 rfl, Ex.new _ _⟩
theorem lit4K {w0 u : World} (_ : Ex w0 u) (z : Nr) : ∃ g v, g = u.heap.size ∧ v = u.alloc (.cells #[.int .i64 z.1, .int .i64 z.2.1, .int .i64 z.2.2.1, .int .i64 z.2.2.2] 3) ∧ Sl 1 encI v (some ⟨g, 0, none⟩) 4 (nearL z) ∧ Ex u v :=
  ⟨_, _, rfl, rfl, Sl.lit (nearL z) rfl rfl (fun _ => rfl) rfl, Ex.new _ _⟩
def Kp17Rel (m : Nat) (w : World) (i : Value) (wr : World) : Prop := ∃ k : Nat, k ≤ m ∧ i = .int .i64 k ∧ Ex w wr
set_option maxRecDepth 100000 in
set_option maxHeartbeats 16000000 in
theorem bridgekeeps_walk (a1 : Option Addr) (n1 c1 : Nat) (l1 : List Int) (w : World) (h1 : Sl 1 encI w a1 n1 l1) (hc1 : n1 ≤ c1) (hm1 : c1 ≤ maxLen) (hT : TabG w) (hL : LetG w) :
    Calls Tryz.prog 6 #[.slice a1 n1 c1] w fun e w' => e = .returned (.bool true) ∧ Ex w w' := by
  go_enter Tryz.func6, Tryz.ntmps6
  go_wp2_with fail
  refine (new_t _ _ _ l1 _ h1 hc1 hm1).mono ?_
  rintro e w1 ⟨rfl, T, kk, z1⟩
  obtain ⟨b, hb⟩ : ∃ b, b = w.heap.size := ⟨_, rfl⟩
  rw [← hb] at T ⊢
  have hgt : ¬ 1 = b := by have := hT.lt; omega
  have hgl : ¬ 0 = b := by have := hL.lt; omega
  have T1 : Hid (TabG w1) := Lib.hid (hT.nx kk)
  have L1 : Hid (LetG w1) := Lib.hid (hL.nx kk)
  have QL : Hid (Exl b w w1) := Lib.hid ⟨kk, by omega⟩
  clear h1 hT hL kk hb z1
  have hbo := T.lt
  go_wp2_with fail
  refine (some_n 7 _ T L1.out hgl (by omega) (by omega)).mono ?_
  clear T
  rintro e x1 ⟨v1, L, rfl, R, hL1⟩
  have kw := R.k
  have T := R.tape
  obtain ⟨aX, cX, rfl, SX, hcX, hmX, _⟩ := R.own.slf (fun _ => rfl)
  have SX := SX.slb hbo
  have RL := R.len
  have H0 := Lib.hid R.ok
  have HW : Hid (∀ x ∈ L, x.word < 4294967296) := Lib.hid (fun x hx => by have := R.word x hx; omega)
  clear R
  go_wp2_with fail
  refine (next_t 4 _ T (by omega) (by omega)).mono ?_
  clear T
  rintro e x2 ⟨hh, rfl, hh0, hh1, T, kk⟩
  replace kw := kw.nxb kk
  replace SX := SX.nxb kk
  clear kk
  obtain ⟨ht, rfl⟩ : ∃ t : Nat, hh = t := ⟨hh.toNat, by omega⟩
  go_wp2_with fail
  refine (joined_t ht _ _ _ L _ T SX (by omega) hcX hmX H0.out (by omega)).mono ?_
  clear T
  rintro e x3 ⟨vJ, qs, P0, rfl, J⟩
  replace kw := kw.nxb J.k
  replace SX := (SX.nxb J.k).sl
  obtain ⟨aJ, cJ, rfl, PJ, _, _, _⟩ := J.own.pl
  have HF := Lib.hid (few_smallB (show FewQ 100 200 P0 from J.small))
  have HF2 : Hid (FewQ 100 200 P0) := Lib.hid J.small
  have hPl : P0.length = L.length := J.ids.1
  rw [hPl] at PJ ⊢
  have TG := Lib.hid (T1.out.nxb hgt kw)
  have QX := Lib.hid (QL.out.nxb kw).1
  have HS := Lib.hid SX
  have ht16 : ht ≤ 16 := by omega
  have hl9 : (bRoundN L P0 (ht : Int)).length = L.length := bround_len H0.out ht16
  have RF := Lib.hid (bround_few HF2.out (N := L) ht16)
  have KA : Hid (∀ (i : Nat) (y : Pr), (bRoundN L P0 (ht : Int))[i]? = some y → ({ peerN P0 y.id with near := y.near } : Pr) = y ∧ y.near.length = ht ∧ ∀ z ∈ y.near, ∀ v ∈ nearL z, Fixd L y.id v) := Lib.hid (fun i y hy => keeps_at H0.out ht16 hy)
  clear J SX kw hPl
  go_wp2_with fail
  (with_reducible refine (bround_p _ _ _ L _ _ _ P0 (ht : Int) _ HS.out (by omega) hcX hmX HW.out PJ (by omega) HF.out).mono ?_)
  rintro e x4 ⟨v9, qs9, rfl, own, kk⟩
  obtain ⟨a9, c9, rfl, P9, hc9, hm9, _⟩ := own.pl
  generalize bRoundN L P0 (ht : Int) = RN at own P9 hl9 RF KA hc9
  rw [hl9] at P9 hc9 ⊢
  replace HS := Lib.hid (HS.out.nx kk)
  replace TG := Lib.hid (TG.out.nx kk)
  replace QX := Lib.hid (QX.out.nx kk)
  have HPJ := Lib.hid (PJ.nx kk)
  have HP9 := Lib.hid P9
  have hl20 : L.length ≤ 20 := by omega
  clear own kk PJ P9
  go_wp2_with fail
  go_loopw [8] (fun i wr => Kp17Rel L.length x4 i wr) (fun i _ => L.length - (intOf i).toNat)
  case atStart => exact ⟨0, by omega, rfl, Ex.refl _⟩
  case round =>
    obtain ⟨k, hk, rfl, ki⟩ := hrel
    obtain ⟨wi, rfl⟩ : ∃ wi : World, wi = wr := ⟨_, rfl⟩
    have KI := Lib.hid ki
    clear ki
    by_cases hlt : k < L.length
    · obtain ⟨x5, o5, b1, m1, d1, b4, m4, d4, y, rfl, hx5, hy, e0, e1, e2, e3, e4, s1, s4⟩ := (HP9.out.nx KI.out).rd hlt
      obtain ⟨ky, kn, kf⟩ := KA.out k y hy
      have PS := Lib.hid ((HP9.out.nx KI.out).sub hy)
      have hm4 : m4 = ht := s4.len.symm.trans kn
      rw [hm4] at e4 s4
      clear hm4
      have hyF := RF.out y (List.mem_of_getElem? hy)
      have EY0 := Lib.hid (fun wq (kq : Ex wi wq) => Chg.cellv kq e0 hx5)
      have EY4 := Lib.hid (fun wq (kq : Ex wi wq) => Chg.cellv kq e4 hx5)
      have S4 := Lib.hid s4
      have KY := Lib.hid ky
      have KF := Lib.hid kf
      have hkc : (k : Int) < (L.length : Int) := by omega
      have hs1 : (0 : Int) ≤ (k : Int) + 1 := by omega
      have hs2 : (k : Int) + 1 ≤ (c9 : Int) := by omega
      have hs3 : ¬ c9 = k := by omega
      have hwk : IntKind.i64.wrap ((k : Int) + 1) = (k : Int) + 1 := IntWalk.i64_in _ (by omega)
      clear e1 e2 e3 s1 s4 hx5 hy ky kn kf
      go_wp2_with fail
      (with_reducible refine (peer_r _ _ _ P0 y.id _ (HPJ.out.nx KI.out) (by omega) HF.out).mono ?_)
      rintro e w5 ⟨⟨A1, u1, f1⟩, ⟨A4, u4, f4⟩, rfl, ok, _, kk⟩
      obtain ⟨A1', f1', e', OK, _⟩ := ok.slf (fun _ => rfl)
      generalize hpp : peerN P0 y.id = pp at ok e' OK KY ⊢
      clear hpp
      injection e' with e1 e2 e3
      subst e1 e2 e3
      have K5 := Lib.hid kk
      have OKS := Lib.hid OK.sl
      simp only [Hdr.val]
      have hpk : pp.known = y.known := by rw [← KY.out]
      have hpi : pp.id = y.id := by rw [← KY.out]
      have hpl : pp.left = y.left := by rw [← KY.out]
      have hpr : pp.right = y.right := by rw [← KY.out]
      rw [hpi, hpl, hpr]
      rw [hpk] at OKS ⊢
      clear ok OK kk e0 hpk hpi hpl hpr KY
      have z5 := K5.out.size
      have B9 := Blk.new w5 [.int .i64 y.id, .slice A1 y.known.length f1, .int .i64 y.left, .int .i64 y.right, .slice A4 u4 f4] 45
      have kk := Ex.new w5 (.cells #[.int .i64 y.id, .slice A1 y.known.length f1, .int .i64 y.left, .int .i64 y.right, .slice A4 u4 f4] 45)
      obtain ⟨w6, hw6⟩ : ∃ w6, w6 = w5.alloc (.cells #[.int .i64 y.id, .slice A1 y.known.length f1, .int .i64 y.left, .int .i64 y.right, .slice A4 u4 f4] 45) := ⟨_, rfl⟩
      obtain ⟨g9, hg9⟩ : ∃ g9, g9 = w5.heap.size := ⟨_, rfl⟩
      replace B9 : Blk w6 g9 [.int .i64 y.id, .slice A1 y.known.length f1, .int .i64 y.left, .int .i64 y.right, .slice A4 u4 f4] 45 := by rw [hw6, hg9]; exact B9
      rw [← hw6] at kk
      have Hw6 := Lib.hid hw6
      have Hg9 := Lib.hid hg9
      have zg5 : w5.heap.size ≤ g9 := by omega
      have zgi : wi.heap.size ≤ g9 := by omega
      have K6 := Lib.hid kk
      have e4 := EY4.out _ (K5.out.nx kk)
      clear kk hw6 hg9
      go_upto_region 11 with fail
      rw [← Hg9.out, ← Hw6.out]
      clear Hg9 Hw6
      have c4 := B9.cell 4 _ rfl
      have f4 := B9.free 4
      have BS0 : Blk (w6.setCell ⟨g9, 4, none⟩ (.slice b4 ht d4)) g9 [.int .i64 y.id, .slice A1 y.known.length f1, .int .i64 y.left, .int .i64 y.right, .slice b4 ht d4] 45 := B9.set 4 _
      have K57 := K6.out.setNew (p := ⟨g9, 4, none⟩) (.slice b4 ht d4) zg5
      have KI7 := (K5.out.nx K6.out).setNew (p := ⟨g9, 4, none⟩) (.slice b4 ht d4) zgi
      obtain ⟨w7, hw7⟩ : ∃ w7, w7 = w6.setCell ⟨g9, 4, none⟩ (.slice b4 ht d4) := ⟨_, rfl⟩
      have Hw7 := Lib.hid hw7
      rw [← hw7] at BS0 K57 KI7
      replace BS0 := Lib.hid BS0
      replace K57 := Lib.hid K57
      replace KI7 := Lib.hid KI7
      clear hw7 B9
      go_upto_region 12 with fail
      rw [← Hw7.out]
      clear Hw7 c4 f4 e4
      refine wp_region_held_drew (S := Ex w7) (by kernel_rfl) ((Ex.refl w7).drew) (fun hHeld => ?_)
      obtain ⟨wd, hwdx⟩ : ∃ wd : World, wd = World.drew w7 := ⟨_, rfl⟩
      rw [← hwdx] at hHeld ⊢
      have hDrew : Ex w7 wd := by rw [hwdx]; exact (Ex.refl w7).drew
      clear hwdx
      refine wpAnyH_take (i := 0) (oi := ⟨some 51, .load 45 (.tmp 9), 45, "law.go:109", #[], none⟩) (v := ?_) rfl (by kernel_rfl) (by kernel_rfl) (by kernel_rfl) (fun _ _ _ h => h) (Or.inl ⟨by rfl, ?hyr1x0q5⟩) (by assumption) ?restr1x0q5
      case hyr1x0q5 => intro wq hSw; (have B := BS0.out.nx hSw; have c0 := B.cell 0 _ rfl; have c1 := B.cell 1 _ rfl; have c2 := B.cell 2 _ rfl; have c3 := B.cell 3 _ rfl; have c4 := B.cell 4 _ rfl; go_simp); (try with_reducible rfl)
      try simp only [Act.put, List.setIfInBounds_toArray, List.set_cons_zero, List.set_cons_succ]
      refine wpAnyH_take (i := 2) (oi := ⟨some 53, .move (.tmp 7), 24, "law.go:109", #[], none⟩) (v := ?_) rfl (by kernel_rfl) (by kernel_rfl) (by kernel_rfl) (fun _ _ _ h => h) (Or.inl ⟨by rfl, ?hyr1x2q8⟩) (by assumption) ?restr1x2q8
      case hyr1x2q8 => intro wq hSw; (go_simp); (try with_reducible rfl)
      try simp only [Act.put, List.setIfInBounds_toArray, List.set_cons_zero, List.set_cons_succ]
      refine wpAnyH_take (i := 3) (oi := ⟨some 54, .move (.tmp 8), 3, "law.go:109", #[], none⟩) (v := ?_) rfl (by kernel_rfl) (by kernel_rfl) (by kernel_rfl) (fun _ _ _ h => h) (Or.inl ⟨by rfl, ?hyr1x3q11⟩) (by assumption) ?restr1x3q11
      case hyr1x3q11 => intro wq hSw; (go_simp); (try with_reducible rfl)
      try simp only [Act.put, List.setIfInBounds_toArray, List.set_cons_zero, List.set_cons_succ]
      refine wpAnyH_take (i := 4) (oi := ⟨some 55, .move (.tmp 8), 3, "law.go:109", #[], none⟩) (v := ?_) rfl (by kernel_rfl) (by kernel_rfl) (by kernel_rfl) (fun _ _ _ h => h) (Or.inl ⟨by rfl, ?hyr1x4q14⟩) (by assumption) ?restr1x4q14
      case hyr1x4q14 => intro wq hSw; (go_simp); (try with_reducible rfl)
      try simp only [Act.put, List.setIfInBounds_toArray, List.set_cons_zero, List.set_cons_succ]
      refine wpAnyH_take (i := 5) (oi := ⟨some 56, .binOp .add 3 (.tmp 55) (.const (.int .i64 1)) 3, 3, "law.go:109", #[⟨4, .data⟩], none⟩) (v := ?_) rfl (by kernel_rfl) (by kernel_rfl) (by kernel_rfl) (fun _ _ _ h => h) (Or.inl ⟨by rfl, ?hyr1x5q17⟩) (by assumption) ?restr1x5q17
      case hyr1x5q17 => intro wq hSw; (go_simp); (try with_reducible rfl)
      try simp only [Act.put, List.setIfInBounds_toArray, List.set_cons_zero, List.set_cons_succ]
      refine wpAnyH_take (i := 6) (oi := ⟨some 57, .slice 24 (.tmp 53) (some (.tmp 54)) (some (.tmp 56)) none, 24, "law.go:109", #[⟨2, .data⟩, ⟨3, .data⟩, ⟨5, .data⟩], none⟩) (v := ?_) rfl (by kernel_rfl) (by kernel_rfl) (by kernel_rfl) (fun _ _ _ h => h) (Or.inl ⟨by rfl, ?hyr1x6q20⟩) (by assumption) ?restr1x6q20
      case hyr1x6q20 => intro wq hSw; (go_simp); (try with_reducible rfl)
      try simp only [Act.put, List.setIfInBounds_toArray, List.set_cons_zero, List.set_cons_succ]
      refine wpAnyH_ready (rs := [1]) (by kernel_rfl) (by simp) ?_
      refine AllReadyH.cons (o := ⟨some 52, .buildSlice 24 1 #[(0, .tmp 51)], 24, "law.go:109", #[⟨0, .data⟩], none⟩) rfl (fun K hK => ?_) AllReadyH.nil
      go_simp
      obtain ⟨g1, wz, hg1, hwz, P1, kk⟩ := litPr hHeld (y := y) (c1 := f1) (c4 := d4) (OKS.out.nx (K57.out.nx hHeld)) (S4.out.nx (KI7.out.nx hHeld))
      rw [← hg1, ← hwz]
      replace hHeld := hHeld.nx kk
      clear hg1 hwz kk
      refine hK.out _ _ (hHeld) (fun hHeld => ?_)
      clear hK K
      try simp only [Act.put, List.setIfInBounds_toArray, List.set_cons_zero, List.set_cons_succ]
      refine wpAnyH_ready (rs := [7]) (by kernel_rfl) (by simp) ?_
      refine AllReadyH.cons (o := ⟨some 58, .call { callee := .value (.func 26), args := #[.tmp 52, .tmp 57], argTypes := #[24, 24] }, 4, "law.go:109", #[⟨1, .data⟩, ⟨6, .data⟩], none⟩) rfl (fun K hK => ?_) AllReadyH.nil
      go_simp
      (with_reducible refine (same14_r _ _ _ [y] _ _ _ P1 (PS.out.nx (KI7.out.nx hHeld)) (by omega) (fun p hp => by rw [List.mem_singleton.1 hp]; omega)).mono ?_)
      rintro e wx ⟨rfl, kk⟩
      replace hHeld := hHeld.nx kk
      clear kk P1
      refine hK.out _ _ (hHeld) (fun hHeld => ?_)
      clear hK K
      try simp only [Act.put, List.setIfInBounds_toArray, List.set_cons_zero, List.set_cons_succ]
      refine wpAnyH_take (i := 8) (oi := ⟨some 59, .unOp .not 4 (.tmp 58), 4, "law.go:109", #[⟨7, .data⟩], none⟩) (v := ?_) rfl (by kernel_rfl) (by kernel_rfl) (by kernel_rfl) (fun _ _ _ h => h) (Or.inl ⟨by rfl, ?hyr1x8q43⟩) (by assumption) ?restr1x8q43
      case hyr1x8q43 => intro wq hSw; (go_simp); (try with_reducible rfl)
      try simp only [Act.put, List.setIfInBounds_toArray, List.set_cons_zero, List.set_cons_succ]
      refine wpAnyH_take (i := 9) (oi := ⟨some 60, .move (.tmp 59), 4, "law.go:109", #[⟨8, .data⟩, ⟨7, .chain⟩], none⟩) (v := ?_) rfl (by kernel_rfl) (by kernel_rfl) (by kernel_rfl) (fun _ _ _ h => h) (Or.inl ⟨by rfl, ?hyr1x9q46⟩) (by assumption) ?restr1x9q46
      case hyr1x9q46 => intro wq hSw; (go_simp); (try with_reducible rfl)
      try simp only [Act.put, List.setIfInBounds_toArray, List.set_cons_zero, List.set_cons_succ]
      refine wpAnyH_take (i := 10) (oi := ⟨some 61, .move (.tmp 7), 24, "law.go:109", #[⟨9, .guard⟩], some (9, false)⟩) (v := ?_) rfl (by kernel_rfl) (by kernel_rfl) (by kernel_rfl) (fun _ _ _ h => h) (Or.inl ⟨by rfl, ?hyr1x10q49⟩) (by assumption) ?restr1x10q49
      case hyr1x10q49 => intro wq hSw; (go_simp); (try with_reducible rfl)
      try simp only [Act.put, List.setIfInBounds_toArray, List.set_cons_zero, List.set_cons_succ]
      refine wpAnyH_take (i := 11) (oi := ⟨some 62, .move (.tmp 8), 3, "law.go:109", #[⟨9, .guard⟩], some (9, false)⟩) (v := ?_) rfl (by kernel_rfl) (by kernel_rfl) (by kernel_rfl) (fun _ _ _ h => h) (Or.inl ⟨by rfl, ?hyr1x11q52⟩) (by assumption) ?restr1x11q52
      case hyr1x11q52 => intro wq hSw; (go_simp); (try with_reducible rfl)
      try simp only [Act.put, List.setIfInBounds_toArray, List.set_cons_zero, List.set_cons_succ]
      refine wpAnyH_take (i := 12) (oi := ⟨some 63, .indexAddr 24 (.tmp 61) (.tmp 62), 0, "law.go:109", #[⟨10, .data⟩, ⟨11, .data⟩, ⟨9, .guard⟩], some (9, false)⟩) (v := ?_) rfl (by kernel_rfl) (by kernel_rfl) (by kernel_rfl) (fun _ _ _ h => h) (Or.inl ⟨by rfl, ?hyr1x12q55⟩) (by assumption) ?restr1x12q55
      case hyr1x12q55 => intro wq hSw; (go_simp); (try with_reducible rfl)
      try simp only [Act.put, List.setIfInBounds_toArray, List.set_cons_zero, List.set_cons_succ]
      refine wpAnyH_take (i := 13) (oi := ⟨some 64, .fieldAddr 45 (.tmp 63) 4, 0, "law.go:109", #[⟨12, .data⟩, ⟨9, .guard⟩], some (9, false)⟩) (v := ?_) rfl (by kernel_rfl) (by kernel_rfl) (by kernel_rfl) (fun _ _ _ h => h) (Or.inl ⟨by rfl, ?hyr1x13q58⟩) (by assumption) ?restr1x13q58
      case hyr1x13q58 => intro wq hSw; (go_simp); (try with_reducible rfl)
      try simp only [Act.put, List.setIfInBounds_toArray, List.set_cons_zero, List.set_cons_succ]
      refine wpAnyH_take (i := 14) (oi := ⟨some 65, .load 43 (.tmp 64), 43, "law.go:109", #[⟨13, .data⟩, ⟨9, .guard⟩], some (9, false)⟩) (v := ?_) rfl (by kernel_rfl) (by kernel_rfl) (by kernel_rfl) (fun _ _ _ h => h) (Or.inl ⟨by rfl, ?hyr1x14q61⟩) (by assumption) ?restr1x14q61
      case hyr1x14q61 => intro wq hSw; (have cq := EY4.out wq (KI7.out.nx hSw); go_simp); (try with_reducible rfl)
      try simp only [Act.put, List.setIfInBounds_toArray, List.set_cons_zero, List.set_cons_succ]
      refine wpAnyH_take (i := 15) (oi := ⟨some 66, .call { callee := .builtin .len, args := #[.tmp 65], argTypes := #[43] }, 3, "law.go:109", #[⟨14, .data⟩, ⟨9, .guard⟩], some (9, false)⟩) (v := ?_) rfl (by kernel_rfl) (by kernel_rfl) (by kernel_rfl) (fun _ _ _ h => h) (Or.inl ⟨by rfl, ?hyr1x15q64⟩) (by assumption) ?restr1x15q64
      case hyr1x15q64 => intro wq hSw; (go_simp); (try with_reducible rfl)
      try simp only [Act.put, List.setIfInBounds_toArray, List.set_cons_zero, List.set_cons_succ]
      refine wpAnyH_take (i := 16) (oi := ⟨some 67, .move (.tmp 5), 3, "law.go:109", #[⟨9, .guard⟩], some (9, false)⟩) (v := ?_) rfl (by kernel_rfl) (by kernel_rfl) (by kernel_rfl) (fun _ _ _ h => h) (Or.inl ⟨by rfl, ?hyr1x16q67⟩) (by assumption) ?restr1x16q67
      case hyr1x16q67 => intro wq hSw; (go_simp); (try with_reducible rfl)
      try simp only [Act.put, List.setIfInBounds_toArray, List.set_cons_zero, List.set_cons_succ]
      refine wpAnyH_take (i := 17) (oi := ⟨some 68, .binOp .neq 3 (.tmp 66) (.tmp 67) 3, 4, "law.go:109", #[⟨15, .data⟩, ⟨16, .data⟩, ⟨9, .guard⟩], some (9, false)⟩) (v := ?_) rfl (by kernel_rfl) (by kernel_rfl) (by kernel_rfl) (fun _ _ _ h => h) (Or.inl ⟨by rfl, ?hyr1x17q70⟩) (by assumption) ?restr1x17q70
      case hyr1x17q70 => intro wq hSw; (go_simp); (try with_reducible rfl)
      try simp only [Act.put, List.setIfInBounds_toArray, List.set_cons_zero, List.set_cons_succ]
      refine wpAnyH_take (i := 18) (oi := ⟨some 69, .pick (.tmp 60) (.const (.bool true)) (.tmp 68), 4, "law.go:109", #[⟨9, .data⟩, ⟨17, .data⟩], none⟩) (v := ?_) rfl (by kernel_rfl) (by kernel_rfl) (by kernel_rfl) (fun _ _ _ h => h) (Or.inl ⟨by rfl, ?hyr1x18q73⟩) (by assumption) ?restr1x18q73
      case hyr1x18q73 => intro wq hSw; (go_simp); (try with_reducible rfl)
      try simp only [Act.put, List.setIfInBounds_toArray, List.set_cons_zero, List.set_cons_succ]
      refine wpAnyH_done (by kernel_rfl) ?_ _
      have K8 := Lib.hid (KI7.out.nx hHeld)
      clear hHeld hDrew BS0 K57 OKS PS
      go_wp2_with fail
      go_loopw [10] (fun i wr => Kp17Rel ht wx i wr) (fun i _ => ht - (intOf i).toNat)
      case atStart => exact ⟨0, by omega, rfl, Ex.refl _⟩
      case round =>
        obtain ⟨j, hj, rfl, kj⟩ := hrel
        obtain ⟨wj, rfl⟩ : ∃ wj : World, wj = wr := ⟨_, rfl⟩
        have KJ := Lib.hid (K8.out.nx kj)
        have kjh := Lib.hid kj
        clear kj
        by_cases hjl : j < ht
        · obtain ⟨x6, o6, z, hea, hx6, hz, hcz⟩ := (S4.out.nx KJ.out).at hjl
          subst hea
          have z0 : wj.cell? ⟨x6, o6 + j * 4, none⟩ = some (.int .i64 z.1) := by simpa using hcz 0 _ rfl
          have z1 : wj.cell? ⟨x6, o6 + j * 4 + 1, none⟩ = some (.int .i64 z.2.1) := hcz 1 _ rfl
          have z2 : wj.cell? ⟨x6, o6 + j * 4 + 2, none⟩ = some (.int .i64 z.2.2.1) := hcz 2 _ rfl
          have z3 : wj.cell? ⟨x6, o6 + j * 4 + 3, none⟩ = some (.int .i64 z.2.2.2) := hcz 3 _ rfl
          have Z0 := Lib.hid (fun wq (kq : Ex wj wq) => Chg.cellv kq z0 hx6)
          have Z1 := Lib.hid (fun wq (kq : Ex wj wq) => Chg.cellv kq z1 hx6)
          have Z2 := Lib.hid (fun wq (kq : Ex wj wq) => Chg.cellv kq z2 hx6)
          have Z3 := Lib.hid (fun wq (kq : Ex wj wq) => Chg.cellv kq z3 hx6)
          have FX := Lib.hid (KF.out z (List.mem_of_getElem? hz))
          have hjc : (j : Int) < (ht : Int) := by omega
          clear hcz hz z0 z1 z2 z3 hx6
          go_upto_region 17 with fail
          refine wp_region_held_drew (S := Ex wj) (by kernel_rfl) ((Ex.refl wj).drew) (fun hHeld => ?_)
          obtain ⟨wd, hwdx⟩ : ∃ wd : World, wd = World.drew wj := ⟨_, rfl⟩
          rw [← hwdx] at hHeld ⊢
          have hDrew : Ex wj wd := by rw [hwdx]; exact (Ex.refl wj).drew
          clear hwdx
          refine wpAnyH_take (i := 0) (oi := ⟨some 75, .move (.tmp 7), 24, "law.go:113", #[], none⟩) (v := ?_) rfl (by kernel_rfl) (by kernel_rfl) (by kernel_rfl) (fun _ _ _ h => h) (Or.inl ⟨by rfl, ?hyr2x0q5⟩) (by assumption) ?restr2x0q5
          case hyr2x0q5 => intro wq hSw; (go_simp); (try with_reducible rfl)
          try simp only [Act.put, List.setIfInBounds_toArray, List.set_cons_zero, List.set_cons_succ]
          refine wpAnyH_take (i := 1) (oi := ⟨some 76, .move (.tmp 8), 3, "law.go:113", #[], none⟩) (v := ?_) rfl (by kernel_rfl) (by kernel_rfl) (by kernel_rfl) (fun _ _ _ h => h) (Or.inl ⟨by rfl, ?hyr2x1q8⟩) (by assumption) ?restr2x1q8
          case hyr2x1q8 => intro wq hSw; (go_simp); (try with_reducible rfl)
          try simp only [Act.put, List.setIfInBounds_toArray, List.set_cons_zero, List.set_cons_succ]
          refine wpAnyH_take (i := 2) (oi := ⟨some 77, .indexAddr 24 (.tmp 75) (.tmp 76), 0, "law.go:113", #[⟨0, .data⟩, ⟨1, .data⟩], none⟩) (v := ?_) rfl (by kernel_rfl) (by kernel_rfl) (by kernel_rfl) (fun _ _ _ h => h) (Or.inl ⟨by rfl, ?hyr2x2q11⟩) (by assumption) ?restr2x2q11
          case hyr2x2q11 => intro wq hSw; (go_simp); (try with_reducible rfl)
          try simp only [Act.put, List.setIfInBounds_toArray, List.set_cons_zero, List.set_cons_succ]
          refine wpAnyH_take (i := 3) (oi := ⟨some 78, .fieldAddr 45 (.tmp 77) 4, 0, "law.go:113", #[⟨2, .data⟩], none⟩) (v := ?_) rfl (by kernel_rfl) (by kernel_rfl) (by kernel_rfl) (fun _ _ _ h => h) (Or.inl ⟨by rfl, ?hyr2x3q14⟩) (by assumption) ?restr2x3q14
          case hyr2x3q14 => intro wq hSw; (go_simp); (try with_reducible rfl)
          try simp only [Act.put, List.setIfInBounds_toArray, List.set_cons_zero, List.set_cons_succ]
          refine wpAnyH_take (i := 4) (oi := ⟨some 79, .load 43 (.tmp 78), 43, "law.go:113", #[⟨3, .data⟩], none⟩) (v := ?_) rfl (by kernel_rfl) (by kernel_rfl) (by kernel_rfl) (fun _ _ _ h => h) (Or.inl ⟨by rfl, ?hyr2x4q17⟩) (by assumption) ?restr2x4q17
          case hyr2x4q17 => intro wq hSw; (have cq := EY4.out wq (KJ.out.nx hSw); go_simp); (try with_reducible rfl)
          try simp only [Act.put, List.setIfInBounds_toArray, List.set_cons_zero, List.set_cons_succ]
          refine wpAnyH_take (i := 5) (oi := ⟨some 80, .move (.tmp 10), 3, "law.go:113", #[], none⟩) (v := ?_) rfl (by kernel_rfl) (by kernel_rfl) (by kernel_rfl) (fun _ _ _ h => h) (Or.inl ⟨by rfl, ?hyr2x5q20⟩) (by assumption) ?restr2x5q20
          case hyr2x5q20 => intro wq hSw; (go_simp); (try with_reducible rfl)
          try simp only [Act.put, List.setIfInBounds_toArray, List.set_cons_zero, List.set_cons_succ]
          refine wpAnyH_take (i := 6) (oi := ⟨some 81, .indexAddr 43 (.tmp 79) (.tmp 80), 0, "law.go:113", #[⟨4, .data⟩, ⟨5, .data⟩], none⟩) (v := ?_) rfl (by kernel_rfl) (by kernel_rfl) (by kernel_rfl) (fun _ _ _ h => h) (Or.inl ⟨by rfl, ?hyr2x6q23⟩) (by assumption) ?restr2x6q23
          case hyr2x6q23 => intro wq hSw; (go_simp); (try with_reducible rfl)
          try simp only [Act.put, List.setIfInBounds_toArray, List.set_cons_zero, List.set_cons_succ]
          refine wpAnyH_take (i := 7) (oi := ⟨some 82, .fieldAddr 49 (.tmp 81) 0, 0, "law.go:113", #[⟨6, .data⟩], none⟩) (v := ?_) rfl (by kernel_rfl) (by kernel_rfl) (by kernel_rfl) (fun _ _ _ h => h) (Or.inl ⟨by rfl, ?hyr2x7q26⟩) (by assumption) ?restr2x7q26
          case hyr2x7q26 => intro wq hSw; (go_simp); (try with_reducible rfl)
          try simp only [Act.put, List.setIfInBounds_toArray, List.set_cons_zero, List.set_cons_succ]
          refine wpAnyH_take (i := 8) (oi := ⟨some 83, .load 3 (.tmp 82), 3, "law.go:113", #[⟨7, .data⟩], none⟩) (v := ?_) rfl (by kernel_rfl) (by kernel_rfl) (by kernel_rfl) (fun _ _ _ h => h) (Or.inl ⟨by rfl, ?hyr2x8q29⟩) (by assumption) ?restr2x8q29
          case hyr2x8q29 => intro wq hSw; (have cq := Z0.out wq hSw; go_simp); (try with_reducible rfl)
          try simp only [Act.put, List.setIfInBounds_toArray, List.set_cons_zero, List.set_cons_succ]
          refine wpAnyH_take (i := 9) (oi := ⟨some 84, .move (.tmp 7), 24, "law.go:113", #[], none⟩) (v := ?_) rfl (by kernel_rfl) (by kernel_rfl) (by kernel_rfl) (fun _ _ _ h => h) (Or.inl ⟨by rfl, ?hyr2x9q32⟩) (by assumption) ?restr2x9q32
          case hyr2x9q32 => intro wq hSw; (go_simp); (try with_reducible rfl)
          try simp only [Act.put, List.setIfInBounds_toArray, List.set_cons_zero, List.set_cons_succ]
          refine wpAnyH_take (i := 10) (oi := ⟨some 85, .move (.tmp 8), 3, "law.go:113", #[], none⟩) (v := ?_) rfl (by kernel_rfl) (by kernel_rfl) (by kernel_rfl) (fun _ _ _ h => h) (Or.inl ⟨by rfl, ?hyr2x10q35⟩) (by assumption) ?restr2x10q35
          case hyr2x10q35 => intro wq hSw; (go_simp); (try with_reducible rfl)
          try simp only [Act.put, List.setIfInBounds_toArray, List.set_cons_zero, List.set_cons_succ]
          refine wpAnyH_take (i := 11) (oi := ⟨some 86, .indexAddr 24 (.tmp 84) (.tmp 85), 0, "law.go:113", #[⟨9, .data⟩, ⟨10, .data⟩], none⟩) (v := ?_) rfl (by kernel_rfl) (by kernel_rfl) (by kernel_rfl) (fun _ _ _ h => h) (Or.inl ⟨by rfl, ?hyr2x11q38⟩) (by assumption) ?restr2x11q38
          case hyr2x11q38 => intro wq hSw; (go_simp); (try with_reducible rfl)
          try simp only [Act.put, List.setIfInBounds_toArray, List.set_cons_zero, List.set_cons_succ]
          refine wpAnyH_take (i := 12) (oi := ⟨some 87, .fieldAddr 45 (.tmp 86) 4, 0, "law.go:113", #[⟨11, .data⟩], none⟩) (v := ?_) rfl (by kernel_rfl) (by kernel_rfl) (by kernel_rfl) (fun _ _ _ h => h) (Or.inl ⟨by rfl, ?hyr2x12q41⟩) (by assumption) ?restr2x12q41
          case hyr2x12q41 => intro wq hSw; (go_simp); (try with_reducible rfl)
          try simp only [Act.put, List.setIfInBounds_toArray, List.set_cons_zero, List.set_cons_succ]
          refine wpAnyH_take (i := 13) (oi := ⟨some 88, .load 43 (.tmp 87), 43, "law.go:113", #[⟨12, .data⟩], none⟩) (v := ?_) rfl (by kernel_rfl) (by kernel_rfl) (by kernel_rfl) (fun _ _ _ h => h) (Or.inl ⟨by rfl, ?hyr2x13q44⟩) (by assumption) ?restr2x13q44
          case hyr2x13q44 => intro wq hSw; (have cq := EY4.out wq (KJ.out.nx hSw); go_simp); (try with_reducible rfl)
          try simp only [Act.put, List.setIfInBounds_toArray, List.set_cons_zero, List.set_cons_succ]
          refine wpAnyH_take (i := 14) (oi := ⟨some 89, .move (.tmp 10), 3, "law.go:113", #[], none⟩) (v := ?_) rfl (by kernel_rfl) (by kernel_rfl) (by kernel_rfl) (fun _ _ _ h => h) (Or.inl ⟨by rfl, ?hyr2x14q47⟩) (by assumption) ?restr2x14q47
          case hyr2x14q47 => intro wq hSw; (go_simp); (try with_reducible rfl)
          try simp only [Act.put, List.setIfInBounds_toArray, List.set_cons_zero, List.set_cons_succ]
          refine wpAnyH_take (i := 15) (oi := ⟨some 90, .indexAddr 43 (.tmp 88) (.tmp 89), 0, "law.go:113", #[⟨13, .data⟩, ⟨14, .data⟩], none⟩) (v := ?_) rfl (by kernel_rfl) (by kernel_rfl) (by kernel_rfl) (fun _ _ _ h => h) (Or.inl ⟨by rfl, ?hyr2x15q50⟩) (by assumption) ?restr2x15q50
          case hyr2x15q50 => intro wq hSw; (go_simp); (try with_reducible rfl)
          try simp only [Act.put, List.setIfInBounds_toArray, List.set_cons_zero, List.set_cons_succ]
          refine wpAnyH_take (i := 16) (oi := ⟨some 91, .fieldAddr 49 (.tmp 90) 1, 0, "law.go:113", #[⟨15, .data⟩], none⟩) (v := ?_) rfl (by kernel_rfl) (by kernel_rfl) (by kernel_rfl) (fun _ _ _ h => h) (Or.inl ⟨by rfl, ?hyr2x16q53⟩) (by assumption) ?restr2x16q53
          case hyr2x16q53 => intro wq hSw; (go_simp); (try with_reducible rfl)
          try simp only [Act.put, List.setIfInBounds_toArray, List.set_cons_zero, List.set_cons_succ]
          refine wpAnyH_take (i := 17) (oi := ⟨some 92, .load 3 (.tmp 91), 3, "law.go:113", #[⟨16, .data⟩], none⟩) (v := ?_) rfl (by kernel_rfl) (by kernel_rfl) (by kernel_rfl) (fun _ _ _ h => h) (Or.inl ⟨by rfl, ?hyr2x17q56⟩) (by assumption) ?restr2x17q56
          case hyr2x17q56 => intro wq hSw; (have cq := Z1.out wq hSw; go_simp); (try with_reducible rfl)
          try simp only [Act.put, List.setIfInBounds_toArray, List.set_cons_zero, List.set_cons_succ]
          refine wpAnyH_take (i := 18) (oi := ⟨some 93, .move (.tmp 7), 24, "law.go:113", #[], none⟩) (v := ?_) rfl (by kernel_rfl) (by kernel_rfl) (by kernel_rfl) (fun _ _ _ h => h) (Or.inl ⟨by rfl, ?hyr2x18q59⟩) (by assumption) ?restr2x18q59
          case hyr2x18q59 => intro wq hSw; (go_simp); (try with_reducible rfl)
          try simp only [Act.put, List.setIfInBounds_toArray, List.set_cons_zero, List.set_cons_succ]
          refine wpAnyH_take (i := 19) (oi := ⟨some 94, .move (.tmp 8), 3, "law.go:113", #[], none⟩) (v := ?_) rfl (by kernel_rfl) (by kernel_rfl) (by kernel_rfl) (fun _ _ _ h => h) (Or.inl ⟨by rfl, ?hyr2x19q62⟩) (by assumption) ?restr2x19q62
          case hyr2x19q62 => intro wq hSw; (go_simp); (try with_reducible rfl)
          try simp only [Act.put, List.setIfInBounds_toArray, List.set_cons_zero, List.set_cons_succ]
          refine wpAnyH_take (i := 20) (oi := ⟨some 95, .indexAddr 24 (.tmp 93) (.tmp 94), 0, "law.go:113", #[⟨18, .data⟩, ⟨19, .data⟩], none⟩) (v := ?_) rfl (by kernel_rfl) (by kernel_rfl) (by kernel_rfl) (fun _ _ _ h => h) (Or.inl ⟨by rfl, ?hyr2x20q65⟩) (by assumption) ?restr2x20q65
          case hyr2x20q65 => intro wq hSw; (go_simp); (try with_reducible rfl)
          try simp only [Act.put, List.setIfInBounds_toArray, List.set_cons_zero, List.set_cons_succ]
          refine wpAnyH_take (i := 21) (oi := ⟨some 96, .fieldAddr 45 (.tmp 95) 4, 0, "law.go:113", #[⟨20, .data⟩], none⟩) (v := ?_) rfl (by kernel_rfl) (by kernel_rfl) (by kernel_rfl) (fun _ _ _ h => h) (Or.inl ⟨by rfl, ?hyr2x21q68⟩) (by assumption) ?restr2x21q68
          case hyr2x21q68 => intro wq hSw; (go_simp); (try with_reducible rfl)
          try simp only [Act.put, List.setIfInBounds_toArray, List.set_cons_zero, List.set_cons_succ]
          refine wpAnyH_take (i := 22) (oi := ⟨some 97, .load 43 (.tmp 96), 43, "law.go:113", #[⟨21, .data⟩], none⟩) (v := ?_) rfl (by kernel_rfl) (by kernel_rfl) (by kernel_rfl) (fun _ _ _ h => h) (Or.inl ⟨by rfl, ?hyr2x22q71⟩) (by assumption) ?restr2x22q71
          case hyr2x22q71 => intro wq hSw; (have cq := EY4.out wq (KJ.out.nx hSw); go_simp); (try with_reducible rfl)
          try simp only [Act.put, List.setIfInBounds_toArray, List.set_cons_zero, List.set_cons_succ]
          refine wpAnyH_take (i := 23) (oi := ⟨some 98, .move (.tmp 10), 3, "law.go:113", #[], none⟩) (v := ?_) rfl (by kernel_rfl) (by kernel_rfl) (by kernel_rfl) (fun _ _ _ h => h) (Or.inl ⟨by rfl, ?hyr2x23q74⟩) (by assumption) ?restr2x23q74
          case hyr2x23q74 => intro wq hSw; (go_simp); (try with_reducible rfl)
          try simp only [Act.put, List.setIfInBounds_toArray, List.set_cons_zero, List.set_cons_succ]
          refine wpAnyH_take (i := 24) (oi := ⟨some 99, .indexAddr 43 (.tmp 97) (.tmp 98), 0, "law.go:113", #[⟨22, .data⟩, ⟨23, .data⟩], none⟩) (v := ?_) rfl (by kernel_rfl) (by kernel_rfl) (by kernel_rfl) (fun _ _ _ h => h) (Or.inl ⟨by rfl, ?hyr2x24q77⟩) (by assumption) ?restr2x24q77
          case hyr2x24q77 => intro wq hSw; (go_simp); (try with_reducible rfl)
          try simp only [Act.put, List.setIfInBounds_toArray, List.set_cons_zero, List.set_cons_succ]
          refine wpAnyH_take (i := 25) (oi := ⟨some 100, .fieldAddr 49 (.tmp 99) 2, 0, "law.go:113", #[⟨24, .data⟩], none⟩) (v := ?_) rfl (by kernel_rfl) (by kernel_rfl) (by kernel_rfl) (fun _ _ _ h => h) (Or.inl ⟨by rfl, ?hyr2x25q80⟩) (by assumption) ?restr2x25q80
          case hyr2x25q80 => intro wq hSw; (go_simp); (try with_reducible rfl)
          try simp only [Act.put, List.setIfInBounds_toArray, List.set_cons_zero, List.set_cons_succ]
          refine wpAnyH_take (i := 26) (oi := ⟨some 101, .load 3 (.tmp 100), 3, "law.go:113", #[⟨25, .data⟩], none⟩) (v := ?_) rfl (by kernel_rfl) (by kernel_rfl) (by kernel_rfl) (fun _ _ _ h => h) (Or.inl ⟨by rfl, ?hyr2x26q83⟩) (by assumption) ?restr2x26q83
          case hyr2x26q83 => intro wq hSw; (have cq := Z2.out wq hSw; go_simp); (try with_reducible rfl)
          try simp only [Act.put, List.setIfInBounds_toArray, List.set_cons_zero, List.set_cons_succ]
          refine wpAnyH_take (i := 27) (oi := ⟨some 102, .move (.tmp 7), 24, "law.go:113", #[], none⟩) (v := ?_) rfl (by kernel_rfl) (by kernel_rfl) (by kernel_rfl) (fun _ _ _ h => h) (Or.inl ⟨by rfl, ?hyr2x27q86⟩) (by assumption) ?restr2x27q86
          case hyr2x27q86 => intro wq hSw; (go_simp); (try with_reducible rfl)
          try simp only [Act.put, List.setIfInBounds_toArray, List.set_cons_zero, List.set_cons_succ]
          refine wpAnyH_take (i := 28) (oi := ⟨some 103, .move (.tmp 8), 3, "law.go:113", #[], none⟩) (v := ?_) rfl (by kernel_rfl) (by kernel_rfl) (by kernel_rfl) (fun _ _ _ h => h) (Or.inl ⟨by rfl, ?hyr2x28q89⟩) (by assumption) ?restr2x28q89
          case hyr2x28q89 => intro wq hSw; (go_simp); (try with_reducible rfl)
          try simp only [Act.put, List.setIfInBounds_toArray, List.set_cons_zero, List.set_cons_succ]
          refine wpAnyH_take (i := 29) (oi := ⟨some 104, .indexAddr 24 (.tmp 102) (.tmp 103), 0, "law.go:113", #[⟨27, .data⟩, ⟨28, .data⟩], none⟩) (v := ?_) rfl (by kernel_rfl) (by kernel_rfl) (by kernel_rfl) (fun _ _ _ h => h) (Or.inl ⟨by rfl, ?hyr2x29q92⟩) (by assumption) ?restr2x29q92
          case hyr2x29q92 => intro wq hSw; (go_simp); (try with_reducible rfl)
          try simp only [Act.put, List.setIfInBounds_toArray, List.set_cons_zero, List.set_cons_succ]
          refine wpAnyH_take (i := 30) (oi := ⟨some 105, .fieldAddr 45 (.tmp 104) 4, 0, "law.go:113", #[⟨29, .data⟩], none⟩) (v := ?_) rfl (by kernel_rfl) (by kernel_rfl) (by kernel_rfl) (fun _ _ _ h => h) (Or.inl ⟨by rfl, ?hyr2x30q95⟩) (by assumption) ?restr2x30q95
          case hyr2x30q95 => intro wq hSw; (go_simp); (try with_reducible rfl)
          try simp only [Act.put, List.setIfInBounds_toArray, List.set_cons_zero, List.set_cons_succ]
          refine wpAnyH_take (i := 31) (oi := ⟨some 106, .load 43 (.tmp 105), 43, "law.go:113", #[⟨30, .data⟩], none⟩) (v := ?_) rfl (by kernel_rfl) (by kernel_rfl) (by kernel_rfl) (fun _ _ _ h => h) (Or.inl ⟨by rfl, ?hyr2x31q98⟩) (by assumption) ?restr2x31q98
          case hyr2x31q98 => intro wq hSw; (have cq := EY4.out wq (KJ.out.nx hSw); go_simp); (try with_reducible rfl)
          try simp only [Act.put, List.setIfInBounds_toArray, List.set_cons_zero, List.set_cons_succ]
          refine wpAnyH_take (i := 32) (oi := ⟨some 107, .move (.tmp 10), 3, "law.go:113", #[], none⟩) (v := ?_) rfl (by kernel_rfl) (by kernel_rfl) (by kernel_rfl) (fun _ _ _ h => h) (Or.inl ⟨by rfl, ?hyr2x32q101⟩) (by assumption) ?restr2x32q101
          case hyr2x32q101 => intro wq hSw; (go_simp); (try with_reducible rfl)
          try simp only [Act.put, List.setIfInBounds_toArray, List.set_cons_zero, List.set_cons_succ]
          refine wpAnyH_take (i := 33) (oi := ⟨some 108, .indexAddr 43 (.tmp 106) (.tmp 107), 0, "law.go:113", #[⟨31, .data⟩, ⟨32, .data⟩], none⟩) (v := ?_) rfl (by kernel_rfl) (by kernel_rfl) (by kernel_rfl) (fun _ _ _ h => h) (Or.inl ⟨by rfl, ?hyr2x33q104⟩) (by assumption) ?restr2x33q104
          case hyr2x33q104 => intro wq hSw; (go_simp); (try with_reducible rfl)
          try simp only [Act.put, List.setIfInBounds_toArray, List.set_cons_zero, List.set_cons_succ]
          refine wpAnyH_take (i := 34) (oi := ⟨some 109, .fieldAddr 49 (.tmp 108) 3, 0, "law.go:113", #[⟨33, .data⟩], none⟩) (v := ?_) rfl (by kernel_rfl) (by kernel_rfl) (by kernel_rfl) (fun _ _ _ h => h) (Or.inl ⟨by rfl, ?hyr2x34q107⟩) (by assumption) ?restr2x34q107
          case hyr2x34q107 => intro wq hSw; (go_simp); (try with_reducible rfl)
          try simp only [Act.put, List.setIfInBounds_toArray, List.set_cons_zero, List.set_cons_succ]
          refine wpAnyH_take (i := 35) (oi := ⟨some 110, .load 3 (.tmp 109), 3, "law.go:113", #[⟨34, .data⟩], none⟩) (v := ?_) rfl (by kernel_rfl) (by kernel_rfl) (by kernel_rfl) (fun _ _ _ h => h) (Or.inl ⟨by rfl, ?hyr2x35q110⟩) (by assumption) ?restr2x35q110
          case hyr2x35q110 => intro wq hSw; (have cq := Z3.out wq hSw; go_simp); (try with_reducible rfl)
          try simp only [Act.put, List.setIfInBounds_toArray, List.set_cons_zero, List.set_cons_succ]
          refine wpAnyH_take (i := 38) (oi := ⟨some 113, .move (.const (.int .i64 0)), 3, "law.go:113", #[], none⟩) (v := ?_) rfl (by kernel_rfl) (by kernel_rfl) (by kernel_rfl) (fun _ _ _ h => h) (Or.inl ⟨by rfl, ?hyr2x38q113⟩) (by assumption) ?restr2x38q113
          case hyr2x38q113 => intro wq hSw; (go_simp); (try with_reducible rfl)
          try simp only [Act.put, List.setIfInBounds_toArray, List.set_cons_zero, List.set_cons_succ]
          refine wpAnyH_ready (rs := [36]) (by kernel_rfl) (by simp) ?_
          refine AllReadyH.cons (o := ⟨some 111, .buildSlice 22 4 #[(0, .tmp 83), (1, .tmp 92), (2, .tmp 101), (3, .tmp 110)], 22, "law.go:113", #[⟨8, .data⟩, ⟨17, .data⟩, ⟨26, .data⟩, ⟨35, .data⟩], none⟩) rfl (fun K hK => ?_) AllReadyH.nil
          go_simp
          obtain ⟨g6, wy, hg6, hwy, SL, kk⟩ := lit4K hHeld z
          rw [← hg6, ← hwy]
          replace hHeld := hHeld.nx kk
          clear hg6 hwy kk
          refine hK.out _ _ (hHeld) (fun hHeld => ?_)
          clear hK K
          try simp only [Act.put, List.setIfInBounds_toArray, List.set_cons_zero, List.set_cons_succ]
          refine wpAnyH_take (i := 37) (oi := ⟨some 112, .call { callee := .builtin .len, args := #[.tmp 111], argTypes := #[22] }, 3, "law.go:113", #[⟨36, .data⟩], none⟩) (v := ?_) rfl (by kernel_rfl) (by kernel_rfl) (by kernel_rfl) (fun _ _ _ h => h) (Or.inl ⟨by rfl, ?hyr2x37q126⟩) (by assumption) ?restr2x37q126
          case hyr2x37q126 => intro wq hSw; (go_simp); (try with_reducible rfl)
          try simp only [Act.put, List.setIfInBounds_toArray, List.set_cons_zero, List.set_cons_succ]
          refine wpAnyH_done (by kernel_rfl) ?_ _
          have KY := Lib.hid (KJ.out.nx hHeld)
          have KV := Lib.hid (kjh.out.nx hHeld)
          have SLh := Lib.hid SL
          clear hHeld hDrew SL Z0 Z1 Z2 Z3
          go_wp2_with fail
          go_loopw [12, 113] (fun _ i wr => Kp17Rel 4 wy i wr) (fun _ i _ => 4 - (intOf i).toNat)
          case atStart => exact ⟨0, by omega, rfl, Ex.refl _⟩
          case round =>
            obtain ⟨q, hq, rfl, kq⟩ := hrel
            obtain ⟨wu, rfl⟩ : ∃ wu : World, wu = wr := ⟨_, rfl⟩
            have KU := Lib.hid (KY.out.nx kq)
            have kqh := Lib.hid kq
            by_cases hql : q < 4
            · obtain ⟨x7, o7, v, hea, hx7, hv, hcv⟩ := (SLh.out.nx kq).at hql
              cases hea
              have v0 : wu.cell? ⟨g6, q, none⟩ = some (.int .i64 v) := by simpa using hcv 0 _ rfl
              have e0 := EY0.out wu KU.out
              have EV := Lib.hid (FX.out v (List.mem_of_getElem? hv))
              clear kq hcv hv hx7
              go_wp2_with fail
              (with_reducible refine (other_r _ _ _ L v y.id _ (HS.out.nx (KI.out.nx KU.out)) (by omega)).mono ?_)
              rintro e w9 ⟨rfl, kk⟩
              rw [show otherN L v y.id = v from EV.out]
              have KZ := Lib.hid (kqh.out.nx kk)
              clear kk v0 e0
              go_wp2_with fail
              exact ⟨⟨q + 1, by omega, by go_num, KZ.out⟩, by simp [intOf]; omega⟩
            · obtain rfl : q = 4 := by omega
              have KZ := Lib.hid (KV.out.nx kq)
              clear kq
              go_wp2_with fail
              exact ⟨⟨j + 1, by omega, by go_num, KZ.out⟩, by simp [intOf]; omega⟩
        · obtain rfl : j = ht := by omega
          have KZ := Lib.hid (KI.out.nx KJ.out)
          go_wp2_with fail
          exact ⟨⟨k + 1, by omega, by go_num, KZ.out⟩, by simp [intOf]; omega⟩
    · obtain rfl : k = L.length := by omega
      go_wp2_with fail
      (with_reducible refine (sane17_x _ (TG.out.nx KI.out)).mono ?_)
      rintro e wz ⟨rfl, kk⟩
      have KF := Lib.hid (QX.out.nx (KI.out.nx kk))
      clear kk
      go_wp2_with fail
      go_ret
      exact ⟨rfl, KF.out⟩
end Go.Proofs.YtbnbjiddffihoaaGreatDoor

/- What the laid tables give the walks. -/
namespace Go.Proofs.YtbnbjiddffihoaaGreatDoor
open Go.RowKit

theorem Tryz.gTab : Tryz.prog.globalNamed "math/bits.deBruijn32tab" = some 1 := by kernel_rfl
theorem Tryz.tTab : (Tryz.prog.globals[1]?).map (·.type) = some 172 := by kernel_rfl
theorem Tryz.cells32 : Tryz.prog.cellsOf 172 = 32 := by kernel_rfl
theorem Tryz.cellsU8 : Tryz.prog.cellsOf 5 = 1 := by kernel_rfl
theorem laid_tab {H : Type} : (Rows.laid_math_bits_deBruijn32tab : DataW H) = Lib.tabData .u8 (Lib.deBruijn32tab.map fun (n : Nat) => (n : Int)) := rfl

theorem tabG_of {rest : List (String × DataW Unit)} {W : World} (h : laidMetH Tryz.prog (("math/bits.deBruijn32tab", Rows.laid_math_bits_deBruijn32tab) :: rest) W)
    (hp : ((("math/bits.deBruijn32tab", Rows.laid_math_bits_deBruijn32tab) :: rest).all fun x => x.2.handleName?.isNone) = true) : TabG W := by
  rw [MakeChecks.laidMetH_plain _ _ _ hp, laid_tab] at h
  have ht := Lib.tabIs_of_head Tryz.gTab Tryz.tTab Tryz.underlying172 Tryz.underlying5 Tryz.cellsU8 Tryz.cells32 h
  intro j hj
  have := ht.cell Tryz.gTab j (by simp [Lib.deBruijn32tab]; omega)
  rw [this]
  congr 2
  simp [List.getD, List.getElem?_map]
  cases h : Lib.deBruijn32tab[j]? <;> simp
end Go.Proofs.YtbnbjiddffihoaaGreatDoor

/- What the laid letters give the walks. -/
namespace Go.Proofs.YtbnbjiddffihoaaGreatDoor
open Go.RowKit

theorem Tryz.gLet : Tryz.prog.globalNamed "skipgraph/skipgraphworld.letters" = some 0 := by kernel_rfl
theorem Tryz.tLet : (Tryz.prog.globals[0]?).map (·.type) = some 85 := by kernel_rfl
theorem Tryz.cells6 : Tryz.prog.cellsOf 85 = 6 := by kernel_rfl
theorem Tryz.cellsStr : Tryz.prog.cellsOf 9 = 1 := by kernel_rfl
def letL : List (List UInt8) := [[97], [98], [99], [0], [255], [109]]

theorem cells_of_strs {H : Type} {enc : TypeId × Value → H} {P : Program} {w : World} {base : Nat} {sp : Nat → Bool} {held : Bool} {fuel : Nat} {t e : TypeId} {n : Nat} {cs : List Value} {zs : List (List UInt8)} {p : List MemPlace}
    (ht : P.underlying t = some (.array n e)) (he : P.underlying e = some .string) (hce : P.cellsOf e = 1) (hct : P.cellsOf t = n)
    (h : DataW.trod enc P w base sp held fuel t cs = some (.agg (zs.map fun z => .lit (.string z)), p)) : ∀ (i : Nat) (z : List UInt8), zs[i]? = some z → ∃ s : ByteArray, s.data.toList = z ∧ cs[i]? = some (.string s) := by
  cases fuel with
  | zero => simp [DataW.trod] at h
  | succ fuel =>
    simp only [DataW.trod, ht, hce, hct, Nat.mul_one] at h
    split at h
    · rename_i hl
      obtain ⟨xs, hm, hx⟩ := Option.map_eq_some_iff.1 h
      have hxs : xs.map (·.1) = zs.map fun z => (DataW.lit (.string z) : DataW H) := by
        have := congrArg Prod.fst hx
        simpa using this
      have hxl : xs.length = n := by simpa using Lib.mapM_length hm
      have hzl : zs.length = n := by
        have := congrArg List.length hxs
        simp at this
        omega
      intro i z hz
      have hi : i < n := by have := (List.getElem?_eq_some_iff.1 hz).1; omega
      obtain ⟨b, hb, hf⟩ := Lib.mapM_at hm i i (by simp [hi])
      obtain ⟨s, hc, rfl, _⟩ := DataW.trod_string he hf
      have h1 : cs[i]? = some (.string s) := by
        have := congrArg (·[0]?) hc
        simpa [List.getElem?_take, List.getElem?_drop] using this
      have h2 : (xs.map (·.1))[i]? = some (DataW.lit (.string s.data.toList) : DataW H) := by simp [hb]
      rw [hxs] at h2
      simp only [List.getElem?_map, Option.map_eq_some_iff, DataW.lit.injEq, Lit.string.injEq] at h2
      obtain ⟨z', hz', hzz⟩ := h2
      have : z = z' := Option.some.inj (hz.symm.trans hz')
      exact ⟨s, by rw [this, hzz], h1⟩
    · cases h

theorem laid_let {H : Type} : (Rows.laid_skipgraph_skipgraphworld_letters : DataW H) = .agg (letL.map fun z => .lit (.string z)) := rfl
theorem letG_head {rest : List (String × DataW Unit)} {W : World} (h : laidMet Tryz.prog (("skipgraph/skipgraphworld.letters", .agg (letL.map fun z => .lit (.string z))) :: rest) W) : LetG W := by
  obtain ⟨ps, ⟨g', t', cs, fuel, p, q, hg', ht', hvar, hd, _, _⟩, _⟩ := h
  obtain rfl := Option.some.inj (Tryz.gLet.symm.trans hg')
  obtain rfl := Option.some.inj (Tryz.tLet.symm.trans ht')
  intro j hj
  obtain ⟨z, hz⟩ : ∃ z, letL[j]? = some z := ⟨letL[j]'(by simp [letL]; omega), by simp⟩
  obtain ⟨s, h1, h2⟩ := cells_of_strs Tryz.underlying85 Tryz.underlying9 Tryz.cellsStr Tryz.cells6 hd j z hz
  refine ⟨s, ?_, ?_⟩
  · have hl : z.length = 1 := by
      have : ∀ j, j < 6 → (letL[j]?.getD []).length = 1 := by decide
      have := this j hj
      rw [hz] at this
      exact this
    have : s.data.toList.length = 1 := by rw [h1]; exact hl
    rw [Array.length_toList] at this
    exact this
  · rw [World.var?_cell Tryz.gLet hvar j]
    simpa using h2
end Go.Proofs.YtbnbjiddffihoaaGreatDoor

/- The letters, where they are second on the list of what is laid. -/
namespace Go.Proofs.YtbnbjiddffihoaaGreatDoor
open Go.RowKit

theorem letG_second {x : String × DataW Unit} {W : World} (h : laidMetH Tryz.prog [x, ("skipgraph/skipgraphworld.letters", Rows.laid_skipgraph_skipgraphworld_letters)] W)
    (hp : ([x, ("skipgraph/skipgraphworld.letters", Rows.laid_skipgraph_skipgraphworld_letters)].all fun x => x.2.handleName?.isNone) = true) (hx : decide (x.1 = "skipgraph/skipgraphworld.letters") = false) : LetG W := by
  rw [MakeChecks.laidMetH_plain _ _ _ hp, laid_let] at h
  have h2 := h.filter (fun y => decide (y.1 = "skipgraph/skipgraphworld.letters"))
  rw [List.filter_cons_of_neg (by rw [hx]; simp), List.filter_cons_of_pos (by simp), List.filter_nil] at h2
  exact letG_head h2
end Go.Proofs.YtbnbjiddffihoaaGreatDoor

/- How the arguments of a statement are read: slices as lists. -/
namespace Go.Proofs.YtbnbjiddffihoaaGreatDoor
open Go.ChangeShapes Go.WideShapes Go.ChangeAt Go.RowKit Go.Deep Go.Joins

theorem own : ownKnob Tryz.prog.godebug = none := by kernel_rfl
theorem laidOut : laidOutB Tryz.prog = true := by kernel_rfl

section
variable {H : Type} {enc : TypeId × Value → H} {P : Program} {w : World} {base : Nat} {spare : Nat → Bool} {held : Bool}

theorem addr_lit {a : Addr} {v : Value} {w : World} (h : w.cell? (a.add 0) = some v) : a = ⟨a.block, a.off, none⟩ := by
  obtain ⟨b, o, s⟩ := a
  have : s = none := by simpa [Addr.add] using World.cell?_spot h
  subst this; rfl

theorem rd_ints {t e : TypeId} {k : IntKind} {v : Value} {d : DataW H} {p : List MemPlace} {r : Reach} {b0 : Nat} (ht : P.underlying t = some (.slice e)) (he : P.underlying e = some (.int k)) (hC : P.cellsOf e = 1)
    (hv : Value.okWide P w r b0 t v) (h : DataW.Trod enc P w base spare held t v d p) :
    ∃ a n c l, v = .slice a n c ∧ Rd 1 (fun x : Int => [Value.int k x]) (· < w.heap.size) w a n l ∧ n ≤ c ∧ c ≤ maxLen ∧ (∀ x ∈ l, (Lit.int k x).wf = true) ∧ (a = none → c = 0) := by
  obtain ⟨a0, len0, cap0, rfl⟩ := okWide_slice ht hv
  obtain ⟨fuel, hf⟩ := h
  rcases open_ints ht he hC hf with ⟨hcs, _⟩ | ⟨x, l, c, zs, hcs, _, hl, hm, hz, _, hcell, hwz⟩
  · simp [Value.cells] at hcs
    obtain ⟨rfl, rfl, rfl⟩ := hcs
    exact ⟨none, 0, 0, [], rfl, Rd.nil _ _ _ _ _, by omega, by unfold maxLen; omega, by simp, fun _ => rfl⟩
  · simp [Value.cells] at hcs
    obtain ⟨rfl, rfl, rfl⟩ := hcs
    have hz' : len0 ≤ zs.length := by rw [hz]; split <;> omega
    refine ⟨_, len0, cap0, zs.take len0, rfl, ⟨by simp; omega, ?_⟩, hl, hm, fun y hy => hwz y (List.mem_of_mem_take hy), fun h => by cases h⟩
    rcases Nat.eq_zero_or_pos len0 with h0 | h0
    · exact .inl h0
    · have hx := addr_lit (hcell 0 (by omega))
      refine .inr ⟨x.block, x.off, by rw [← hx], ?_, fun j y hj c u hu => ?_⟩
      · have := World.block_lt_of_cell? w _ (hcell 0 (by omega))
        rw [hx] at this
        simpa [Addr.add] using this
      · have hj' : j < len0 := by
          have := (List.getElem?_eq_some_iff.1 hj).1
          simp at this; omega
        have hy : zs.getD j 0 = y := by
          rw [List.getElem?_take, if_pos hj'] at hj
          simp [List.getD, hj]
        have hc := hcell j (by omega)
        rw [hx, Addr.add_lit, hy] at hc
        rcases c with _ | c
        · simp at hu; subst hu; simpa using hc
        · simp at hu

end
end Go.Proofs.YtbnbjiddffihoaaGreatDoor

/-
  BridgeKeeps returns true for every list of numbers, and leaves its arguments as they were.
  Condition: the table of math/bits and the letters of the keys are as the program text lays them (tied by the card).
-/
namespace Go.Proofs.YtbnbjiddffihoaaGreatDoor
open Go.ChangeShapes Go.WideShapes Go.ChangeAt Go.RowKit Go.Deep Go.Joins
open Go.ChangeMaps (open_string shut_string)
set_option linter.unusedVariables false
theorem Tryz.cellsInt : Tryz.prog.cellsOf 3 = 1 := by kernel_rfl

set_option maxRecDepth 100000 in
set_option maxHeartbeats 1000000 in
theorem bridgeKeeps_lifted (os : Os) (started : os.Started) (H : Type) (enc : TypeId × Value → H) :
    ReturnsInHanded {} Tryz.checked os 6 .any (fun w args => (Rows.bridgeKeepsSpec.pre enc Tryz.prog Tryz.f6 [] false w args ∧ laidMetH Tryz.prog Rows.bridgeKeepsRow.laid w) ∧ sizedMet enc Tryz.prog Tryz.f6 (OpenSpec.ofChange Rows.bridgeKeepsSpec) false w args)
      (Rows.bridgeKeepsSpec.post enc Tryz.prog Tryz.f6 false true false false) := by
  refine returnsInHanded_of_change_and (C := Tryz.checked) (X := fun w _ => laidMetH Tryz.prog Rows.bridgeKeepsRow.laid w) (fun _ _ _ hh h => h.of_heap hh) own started (by kernel_rfl) Tryz.func6
    (ChangeSpec.witness_shaped (enc := enc) (C := Tryz.checked) (os := os) (X := fun w _ => laidMetH Tryz.prog Rows.bridgeKeepsRow.laid w) false (World.doorLaid Tryz.prog 400 os) #[.slice none 0 0] 8 rfl (World.shaped_of_RefB (by kernel_rfl) (by kernel_rfl)) (by kernel_rfl) (by kernel_rfl) (by kernel_rfl) (laidMetH_of_parts3 (fuel := 8) (laidMet_of_run' 8 (by kernel_rfl) (by kernel_rfl)) (by kernel_rfl) (by kernel_rfl))) ?_
  intro W base args ds gs before hval0 hW _ _ hL _
  have hval : ∀ (j : Nat) t v, Tryz.f6.params[j]? = some t → args[j]? = some v → Value.okWide Tryz.prog W .any base t v := hval0
  have hW' := hW
  obtain ⟨p, q, hA0, hV, rfl, hfz, hnd⟩ := hW
  have hA : DataW.TrodAll enc Tryz.prog W 0 (fun _ => true) true Tryz.f6.params.toList args.toList ds p := hA0
  rw [Tryz.params6] at hA hval
  obtain ⟨v0, vs0, d0, ds0, p0, q0, hargs, rfl, rfl, h0, r0⟩ := trodAll_cons hA
  obtain ⟨rfl, rfl, rfl⟩ := trodAll_nil r0
  obtain rfl : args = #[v0] := by cases args; simp_all
  obtain ⟨rfl, rfl⟩ := trodVars_none hV
  have k0 := h0
  have lt0 : ∀ x ∈ p0, x.block < W.heap.size := by obtain ⟨m, hm⟩ := k0; exact DataW.trod_lt m _ _ _ hm
  obtain ⟨A0, n0, cap0, l0, rfl, rd0, hc0, hm0, wf0, nl0⟩ := rd_ints Tryz.underlying22 Tryz.underlying3 Tryz.cellsInt (hval 0 22 v0 rfl rfl) h0
  clear hA0 hval0
  have hT : TabG W := tabG_of hL (by kernel_rfl)
  have hL2 : LetG W := letG_second hL (by kernel_rfl) (by kernel_rfl)
  refine (bridgekeeps_walk A0 n0 cap0 l0 W rd0 hc0 hm0 hT hL2).mono fun e W' ⟨he, hch⟩ => ?_
  have bel : Below W.heap.size W W' := hch.below (fun _ h => h)
  subst he
  exact ⟨_, rfl, _, _, _, [], _, [], hW', trodAll_mk1 (shut_bool Tryz.underlying4 _), (trodAll_cons_mk (Below.trod laidOut (by kernel_rfl) (of_decide_eq_true (by kernel_rfl)) k0 bel lt0) trodAll_mk0), rfl, bel.frame _, fun h => by cases h⟩

theorem bridgeKeeps_over : Rows.bridgeKeepsRow.holds Tryz.pinned (OpenSpec.ofChange Rows.bridgeKeepsSpec) :=
  OpenClaim.holds_of_wide 6 Tryz.f6 rfl rfl rfl rfl rfl rfl rfl ⟨rfl, rfl, rfl, rfl, rfl⟩ rfl rfl rfl rfl rfl (by kernel_rfl) Tryz.func6 (by kernel_rfl)
    (of_decide_eq_true (by kernel_rfl)) (by unfold Func.isWrapper; first | (rw [if_pos (by decide +kernel)]; kernel_rfl) | (rw [if_neg (by decide +kernel)]; exact ⟨rfl, rfl⟩))
    (fun os started H enc _ => bridgeKeeps_lifted os started H enc)

theorem BridgeKeeps_holds : Rows.BridgeKeepsCardSaid :=
  Claim7.holds_tied_plain_at .later [] [.data, .data] true (true, "fa916daaffacb3e24c7be19b08443b31e2338d23d8ecfcb6d713dd40f61712c1") false
    bridgeKeeps_over (fun _ h => by cases h) (by kernel_rfl) (fun _ h => by cases h) bridgeKeeps_row_tie rfl ⟨rfl, rfl⟩ (by kernel_rfl) rfl
    (fun f fn hf hfn => by
      obtain rfl : f = 6 := Option.some.inj ((show Tryz.prog.funcNamed "skipgraph/skipgraphlaw17.BridgeKeeps" = some 6 by kernel_rfl).symm.trans hf) |>.symm
      obtain rfl : fn = Tryz.f6 := (Option.some.inj (Tryz.func6.symm.trans hfn)).symm
      exact ⟨by kernel_rfl, fun j t ht => by
        rw [Tryz.params6] at ht
        have hm : t ∈ [22] := by simpa using Array.mem_of_getElem? ht
        have hall : ([22].all fun u => !Tryz.prog.wantsStandIn u) = true := by kernel_rfl
        exact (show Tryz.prog.wantsStandIn t = false by simpa using List.all_eq_true.1 hall t hm)⟩)
    (by kernel_rfl)
#print axioms BridgeKeeps_holds
end Go.Proofs.YtbnbjiddffihoaaGreatDoor
