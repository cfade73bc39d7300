/- Texts for the statement WireNodesProof, part 12 of 12: SameL, SameN, Dmg, WireSane, WireNds, LaidL, Open, OpenB, OpenL, WireNodesProof. -/
import Derived.Test.YtjaemckdfoaopaaDoorTie
import Derived.Test.YtjaemckdfoaopaaDoorCards
import Derived.Lib.LaidTab
import Derived.ChangeArms
import Derived.LaidMore
import Derived.Stop.Joined
import Derived.SevenTiedAt
import Derived.Test.YtjaemckdfoaopaaDoorRows
import Derived.ProofKit
import Derived.OpenShut
import Derived.ShutString
import Derived.ChangeOld
import Derived.Lib.SmallJoins
import Derived.Deep.Slices
import Derived.Deep.Fields
import Derived.ChangeSame
import Derived.Test.YtjaemckdfoaopaaDoorWireNodesProofPk1
import Derived.Test.YtjaemckdfoaopaaDoorWireNodesProofPk2
import Derived.Test.YtjaemckdfoaopaaDoorWireNodesProofPk5
import Derived.Test.YtjaemckdfoaopaaDoorWireNodesProofPk8
import Derived.Test.YtjaemckdfoaopaaDoorWireNodesProofPk11

/- When two lists of links are equal. -/
namespace Go.Proofs.YtjaemckdfoaopaaDoor
open Go.RowKit

def SmRel (L M : List Lkd) (n : Nat) (w : World) (i : Value) (wr : World) : Prop := ∃ k : Nat, k ≤ n ∧ i = .int .i64 k ∧ Ex w wr ∧ L.take k = M.take k
def SvRel (r s : List (Int × Int)) (n : Nat) (w : World) (i : Value) (wr : World) : Prop := ∃ k : Nat, k ≤ n ∧ i = .int .i64 k ∧ Ex w wr ∧ r.take k = s.take k
theorem take_snoc_eq {α : Type} {L M : List α} {k : Nat} {c d : α} (h : L.take k = M.take k) (hc : L[k]? = some c) (hd : M[k]? = some d) (he : c = d) : L.take (k + 1) = M.take (k + 1) := by
  rw [List.take_add_one, List.take_add_one, h, hc, hd, he]
theorem ne_at {α : Type} {L M : List α} {k : Nat} {c d : α} (hc : L[k]? = some c) (hd : M[k]? = some d) (he : c ≠ d) : ¬ L = M := by
  intro h
  rw [h, hd] at hc
  exact he (Option.some.inj hc).symm

set_option maxHeartbeats 4000000 in
theorem samelk_r (a1 a2 : Option Addr) (n m c1 c2 : Nat) (L M : List Lkd) (w : World) (h1 : LkL w a1 n L) (h2 : LkL w a2 m M) (hn : n ≤ 1000000) (hs : ∀ c ∈ L, c.2.length ≤ 1000000) :
    Calls Tryd.prog 48 #[.slice a1 n c1, .slice a2 m c2] w fun e w' => e = .returned (.bool (decide (L = M))) ∧ Ex w w' := by
  have HL := Lib.hid h1.len
  have HM := Lib.hid h2.len
  have HS := Lib.hid hs
  clear hs
  go_enter Tryd.func48, Tryd.ntmps48
  by_cases hnm : n = m
  · subst hnm
    go_wp2_with fail
    go_loopw [5] (fun i wr => SmRel L M n w i wr) (fun i _ => n - (intOf i).toNat)
    case atStart => exact ⟨0, by omega, rfl, Ex.refl _, rfl⟩
    case round =>
      obtain ⟨k, hk, rfl, kw, hT⟩ := hrel
      obtain ⟨wo, rfl⟩ : ∃ wo : World, wo = wr := ⟨_, rfl⟩
      have HT := Lib.hid hT
      clear hT
      by_cases hlt : k < n
      · obtain ⟨x1, o1, a1', n1', c1', d1, rfl, hx1, hy1, hc1, r1⟩ := (h1.nx kw).at hlt
        obtain ⟨x2, o2, a2', n2', c2', d2, rfl, hx2, hy2, hc2, r2⟩ := (h2.nx kw).at hlt
        have e0 : wo.cell? ⟨x1, o1 + k * 2, none⟩ = some (.int .i64 d1.1) := hc1 0 _ rfl
        have e1 : wo.cell? ⟨x1, o1 + k * 2 + 1, none⟩ = some (.slice a1' n1' c1') := hc1 1 _ rfl
        have f0 : wo.cell? ⟨x2, o2 + k * 2, none⟩ = some (.int .i64 d2.1) := hc2 0 _ rfl
        have f1 : wo.cell? ⟨x2, o2 + k * 2 + 1, none⟩ = some (.slice a2' n2' c2') := hc2 1 _ rfl
        have HY1 := Lib.hid hy1
        have HY2 := Lib.hid hy2
        have L1 := Lib.hid r1.len
        have L2 := Lib.hid r2.len
        have R1 := Lib.hid r1
        have R2 := Lib.hid r2
        have H1 := Lib.hid h1
        have H2 := Lib.hid h2
        have hb1 : n1' ≤ 1000000 := by rw [← r1.len]; exact HS.out _ (List.mem_of_getElem? hy1)
        have KW := Lib.hid kw
        clear hc1 hc2 hy1 hy2 r1 r2 h1 h2 kw
        by_cases hid : d1.1 = d2.1
        · by_cases hln : n1' = n2'
          · subst hln
            have g1 : decide (d1.1 = d2.1) = true := by simpa using hid
            go_wp2_with fail
            go_quiet (fail)
            go_wp2_with fail
            have KQ := KW.out.drewN 0
            go_loopw [6] (fun i wr => SvRel d1.2 d2.2 n1' wo i wr) (fun i _ => n1' - (intOf i).toNat)
            case atStart => exact ⟨0, by omega, rfl, (Ex.refl wo).drewN _, rfl⟩
            case round =>
              obtain ⟨j, hj, rfl, kv, hT2⟩ := hrel
              obtain ⟨wi, rfl⟩ : ∃ wi : World, wi = wr := ⟨_, rfl⟩
              have HT2 := Lib.hid hT2
              clear hT2
              have e1 := Chg.cellv kv e1 hx1
              have f1 := Chg.cellv kv f1 hx2
              by_cases hjl : j < n1'
              · obtain ⟨x3, o3, y1, rfl, hx3, hy1, hc3⟩ := (R1.out.nx kv).at hjl
                obtain ⟨x4, o4, y2, rfl, hx4, hy2, hc4⟩ := (R2.out.nx kv).at hjl
                have u0 : wi.cell? ⟨x3, o3 + j * 2, none⟩ = some (.int .i64 y1.1) := hc3 0 _ rfl
                have u1 : wi.cell? ⟨x3, o3 + j * 2 + 1, none⟩ = some (.int .i64 y1.2) := hc3 1 _ rfl
                have v0 : wi.cell? ⟨x4, o4 + j * 2, none⟩ = some (.int .i64 y2.1) := hc4 0 _ rfl
                have v1 : wi.cell? ⟨x4, o4 + j * 2 + 1, none⟩ = some (.int .i64 y2.2) := hc4 1 _ rfl
                have HZ1 := Lib.hid hy1
                have HZ2 := Lib.hid hy2
                have KV := Lib.hid kv
                clear hc3 hc4 hy1 hy2 kv e0 f0
                by_cases hy : y1 = y2
                · subst hy
                  go_wp2_with fail
                  go_quiet (fail)
                  go_wp2_with fail
                  exact ⟨⟨j + 1, by omega, by go_num, KV.out.drewN _, take_snoc_eq HT2.out HZ1.out HZ2.out rfl⟩, by simp [intOf]; omega⟩
                · have ND : Hid (decide (L = M) = false) := Lib.hid (decide_eq_false (ne_at HY1.out HY2.out (fun h => ne_at HZ1.out HZ2.out hy (by rw [h]))))
                  obtain ⟨p1, r1⟩ := y1
                  obtain ⟨p2, r2⟩ := y2
                  simp only at u0 u1 v0 v1
                  by_cases hp : p1 = p2
                  · subst hp
                    have hr : ¬ r1 = r2 := fun h => hy (by rw [h])
                    have hb : (r1 == r2) = false := by simpa using hr
                    clear hy HZ1 HZ2
                    go_wp2_with fail
                    go_quiet (fail)
                    go_wp2_with fail
                    go_ret
                    exact ⟨by rw [ND.out]; rfl, (KW.out.nx KV.out).drewN _⟩
                  · have hb : (p1 == p2) = false := by simpa using hp
                    clear hy HZ1 HZ2
                    go_wp2_with fail
                    go_quiet (fail)
                    go_wp2_with fail
                    go_ret
                    exact ⟨by rw [ND.out]; rfl, (KW.out.nx KV.out).drewN _⟩
              · obtain rfl : j = n1' := by omega
                have ED : d1 = d2 := Prod.ext hid (by
                  have h3 := HT2.out
                  rwa [List.take_of_length_le (by rw [L1.out]; exact Nat.le_refl _), List.take_of_length_le (by rw [L2.out]; exact Nat.le_refl _)] at h3)
                have ED := Lib.hid ED
                have KV := Lib.hid kv
                clear kv hj hjl e0 f0
                go_wp2_with fail
                exact ⟨⟨k + 1, by omega, by go_num, KW.out.nx KV.out, take_snoc_eq HT.out HY1.out HY2.out ED.out⟩, by simp [intOf]; omega⟩
          · have g1 : decide (d1.1 = d2.1) = true := by simpa using hid
            have g2 : ¬ (n1' : Int) = (n2' : Int) := by omega
            have ND : Hid (decide (L = M) = false) := Lib.hid (decide_eq_false (ne_at HY1.out HY2.out (fun h => hln (by rw [← L1.out, ← L2.out, h]))))
            go_wp2_with fail
            go_quiet (fail)
            go_wp2_with fail
            go_ret
            exact ⟨by rw [ND.out]; rfl, KW.out.drewN _⟩
        · have g1 : decide (d1.1 = d2.1) = false := by simpa using hid
          have ND : Hid (decide (L = M) = false) := Lib.hid (decide_eq_false (ne_at HY1.out HY2.out (fun h => hid (by rw [h]))))
          go_wp2_with fail
          go_quiet (fail)
          go_wp2_with fail
          go_ret
          exact ⟨by rw [ND.out]; rfl, KW.out.drewN _⟩
      · obtain rfl : k = n := by omega
        have ED : Hid (decide (L = M) = true) := Lib.hid (decide_eq_true (by
          have h3 := HT.out
          rwa [List.take_of_length_le (by rw [HL.out]; exact Nat.le_refl _), List.take_of_length_le (by rw [HM.out]; exact Nat.le_refl _)] at h3))
        clear h1 h2 hk hlt
        go_wp2_with fail
        go_ret
        exact ⟨by rw [ED.out]; rfl, kw⟩
  · have hnm' : ¬ (n : Int) = (m : Int) := by omega
    have ND : Hid (decide (L = M) = false) := Lib.hid (decide_eq_false (fun h => hnm (by rw [← HL.out, ← HM.out, h])))
    clear h1 h2
    go_wp2_with fail
    go_ret
    exact ⟨by rw [ND.out]; rfl, Ex.refl _⟩
end Go.Proofs.YtjaemckdfoaopaaDoor

/- When two lists of nodes are equal. -/
namespace Go.Proofs.YtjaemckdfoaopaaDoor
open Go.RowKit

set_option maxHeartbeats 1000000 in
theorem samenodes_x (a1 a2 : Option Addr) (n c1 c2 : Nat) (l : List Nd) (w : World) (h1 : Sl 3 encN w a1 n l) (h2 : Sl 3 encN w a2 n l) (hn : n ≤ 1000000) :
    Calls Tryd.prog 47 #[.slice a1 n c1, .slice a2 n c2] w fun e w' => e = .returned (.bool true) ∧ Ex w w' := by
  go_enter Tryd.func47, Tryd.ntmps47
  go_wp2_with fail
  go_loopw [5] (fun i wr => NRel n w i wr) (fun i _ => n - (intOf i).toNat)
  case atStart => exact ⟨0, by omega, rfl, Ex.refl _⟩
  case round =>
    obtain ⟨k, hk, rfl, kw⟩ := hrel
    obtain ⟨wo, rfl⟩ : ∃ wo : World, wo = wr := ⟨_, rfl⟩
    by_cases hlt : k < n
    · obtain ⟨x1, o1, y, rfl, hx1, hy, hc1⟩ := (h1.nx kw).at hlt
      obtain ⟨x2, o2, y', rfl, hx2, hy', hc2⟩ := (h2.nx kw).at hlt
      obtain rfl : y = y' := Option.some.inj (hy.symm.trans hy')
      have e0 : wo.cell? ⟨x1, o1 + k * 3, none⟩ = some (.int .i64 y.id) := hc1 0 _ rfl
      have e1 : wo.cell? ⟨x1, o1 + k * 3 + 1, none⟩ = some (.string y.key) := hc1 1 _ rfl
      have e2 : wo.cell? ⟨x1, o1 + k * 3 + 1 + 1, none⟩ = some (.int .u32 y.word) := by simpa [Nat.add_assoc] using hc1 2 _ rfl
      have f0 : wo.cell? ⟨x2, o2 + k * 3, none⟩ = some (.int .i64 y.id) := hc2 0 _ rfl
      have f1 : wo.cell? ⟨x2, o2 + k * 3 + 1, none⟩ = some (.string y.key) := hc2 1 _ rfl
      have f2 : wo.cell? ⟨x2, o2 + k * 3 + 1 + 1, none⟩ = some (.int .u32 y.word) := by simpa [Nat.add_assoc] using hc2 2 _ rfl
      clear hc1 hc2 hy hy' h1 h2
      go_wp2_with fail
      go_quiet (fail)
      go_wp2_with fail
      exact ⟨⟨k + 1, by omega, by go_num, kw.drewN _⟩, by simp [intOf]; omega⟩
    · obtain rfl : k = n := by omega
      clear h1 h2 hk hlt
      go_wp2_with fail
      go_ret
      exact ⟨rfl, kw⟩

end Go.Proofs.YtjaemckdfoaopaaDoor

/- Damage to an encoding; what both decoders say about any bytes. -/
namespace Go.Proofs.YtjaemckdfoaopaaDoor
open Go.RowKit

/-- some bytes -/
def BytesAt (w : World) (v : Value) (m : Nat) : Prop := ∃ (a : Option Addr) (n c : Nat) (B : List UInt8), v = .slice a n c ∧ Sl 1 encB w a n B ∧ n ≤ m ∧ n ≤ c ∧ c ≤ maxLen ∧ Form a c
theorem BytesAt.nx {w w' : World} {v : Value} {m : Nat} (h : BytesAt w v m) (k : Ex w w') : BytesAt w' v m := by
  obtain ⟨a, n, c, B, e, s, r⟩ := h
  exact ⟨a, n, c, B, e, s.nx k, r⟩
/-- some bytes that do not lie in block b -/
def BytesAb (b : Nat) (w : World) (v : Value) (m : Nat) : Prop := ∃ (a : Option Addr) (n c : Nat) (B : List UInt8), v = .slice a n c ∧ Slb 1 encB b w a n B ∧ n ≤ m ∧ n ≤ c ∧ c ≤ maxLen ∧ Form a c
theorem BytesAb.nxb {b : Nat} {w w' : World} {v : Value} {m : Nat} (h : BytesAb b w v m) (k : Exb b w w') : BytesAb b w' v m := by
  obtain ⟨a, n, c, B, e, s, r⟩ := h
  exact ⟨a, n, c, B, e, s.nxb k, r⟩
theorem BytesAb.at {b : Nat} {w : World} {v : Value} {m : Nat} (h : BytesAb b w v m) : BytesAt w v m := by
  obtain ⟨a, n, c, B, e, s, r⟩ := h
  exact ⟨a, n, c, B, e, s.sl, r⟩
theorem own_form {e : TypeId} {base : Nat} {w : World} {a : Option Addr} {n c : Nat} {l : List UInt8} (h : OwnL 1 encB e base w (.slice a n c) l) : Form a c := by
  rcases h.2 with ⟨h1, _⟩ | ⟨g', cap, cur, e1, _⟩
  · cases h1; exact .inl ⟨rfl, rfl⟩
  · cases e1; exact .inr ⟨_, _, rfl⟩
theorem own_bytes {e : TypeId} {base m : Nat} {w : World} {v : Value} {l : List UInt8} (h : OwnL 1 encB e base w v l) (hm : l.length ≤ m) : BytesAt w v m := by
  obtain ⟨a, c, rfl, r, c1, c2, c3⟩ := h.rd (fun _ => rfl)
  exact ⟨a, l.length, c, l, rfl, Rd.mono r (fun _ hk => hk.2), hm, c1, c2, own_form h⟩
theorem own_bytesb {e : TypeId} {base b m : Nat} {w : World} {v : Value} {l : List UInt8} (h : OwnL 1 encB e base w v l) (hm : l.length ≤ m) (hb : b < base) : BytesAb b w v m := by
  obtain ⟨a, c, rfl, r, c1, c2, c3⟩ := h.rd (fun _ => rfl)
  exact ⟨a, l.length, c, l, rfl, Rd.mono r (fun k hk => ⟨hk.2, by have := hk.1; omega⟩), hm, c1, c2, own_form h⟩
theorem own_cellB {e : TypeId} {base : Nat} {w : World} {g n cap j : Nat} {l : List UInt8} (h : OwnL 1 encB e base w (.slice (some ⟨g, 0, none⟩) n cap) l) (hj : j < n) :
    w.cell? ⟨g, j, none⟩ = some (.int .u8 (l[j]?.getD 0).toNat) ∧ w.frozen? ⟨g, j, none⟩ = false ∧ ∀ y : UInt8, OwnL 1 encB e base (w.setCell ⟨g, j, none⟩ (.int .u8 y.toNat)) (.slice (some ⟨g, 0, none⟩) n cap) (l.set j y) := by
  rcases h.2 with ⟨h1, _⟩ | ⟨g', cap', cur, e1, e2, e3, e4, e5, e6, e7⟩
  · cases h1
  · cases e1
    have hflat : ∀ l : List UInt8, l.flatMap encB = l.map fun c => Value.int .u8 c.toNat := by
      intro l
      induction l with
      | nil => rfl
      | cons c r ih => rw [List.flatMap_cons, ih]; rfl
    have hjc : j < cur.size := by omega
    rw [hflat] at e7
    refine ⟨?_, ?_, fun y => ⟨?_, .inr ⟨g, cap, cur.setIfInBounds j (.int .u8 y.toNat), by simp, e2, heap_set e3 j _, by simpa using e4, e5, by simpa using e6, ?_⟩⟩⟩
    · have hx : (cur.toList.take (l.length * 1))[j]? = some (.int .u8 (l[j]?.getD 0).toNat) := by
        rw [e7]
        simp [hj]
      rw [List.getElem?_take, if_pos (by omega)] at hx
      simpa [World.cell?, e3] using hx
    · simp [World.frozen?, e3]
    · rw [flatN_len (enc := encB) (sz := 1) (fun _ => rfl)]
    · rw [hflat, List.length_set, Array.toList_setIfInBounds, List.take_set, e7, List.map_set]
theorem byte_natB {p : Int} (h0 : 0 ≤ p) (h1 : p ≤ 255) : ∃ y : UInt8, p = (y.toNat : Int) := ⟨byt p.toNat, by rw [byt_toNat]; omega⟩
def DamPost (m b : Nat) (w : World) (e : Ending) (w' : World) : Prop := ∃ v, e = .returned v ∧ BytesAb b w' v m ∧ TK w' b ∧ Exb b w w'

set_option maxRecDepth 100000 in
set_option maxHeartbeats 4000000 in
theorem damage_t {b : Nat} (a : Option Addr) (n c : Nat) (B : List UInt8) (w : World) (T : TK w b) (h : Sl 1 encB w a n B) (hn : n ≤ 100000) (hnil : a = none → c = 0) :
    Calls Tryd.prog 29 #[.pointer (some ⟨b, 0, none⟩), .slice a n c] w (DamPost 100001 b w) := by
  have HBL := Lib.hid h.len
  have q0 := Ex.new w (.cells #[] 5)
  have h0 := h.nx q0
  have own0 : OwnL 1 encB 5 w.heap.size (w.alloc (.cells #[] 5)) (.slice (some ⟨w.heap.size, 0, none⟩) 0 0) [] := OwnL.empty (Nat.le_refl _) rfl
  go_enter Tryd.func29, Tryd.ntmps29
  go_upto_region 2 with (at_builtin; (refine wpList_append_rd (enc := encB) _ rfl _ _ 23 rfl w.heap.size 5 (.int .u8 0) 1 1 Tryd.underlying23 Tryd.infoB rfl (by omega) (by omega) _ [] own0 rfl _ a n c B h0 hnil (fun _ => rfl) (by simp [encB, Value.oneCell']) rfl (by simp) (by omega) (by simp) ?_); intro v1 w1 own1 hch0 hch1)
  have k1 : Ex w w1 := Chg.trans q0 hch1
  rw [List.nil_append] at own1
  have hbw := T.lt
  replace T := T.nx k1
  clear q0 h0 own0 hch0 hch1 h
  obtain ⟨A, C, rfl, s1, o1, m1, nil1⟩ := own1.slf (fun _ => rfl)
  have KB := Lib.hid (k1.b b)
  have OW := Lib.hid own1
  rw [HBL.out] at s1 o1 ⊢
  have S1 := Lib.hid (s1.slb hbw)
  have F1 : Hid (Form A C) := Lib.hid (own_form OW.out)
  clear k1 s1 own1 nil1
  by_cases hn0 : n = 0
  · subst hn0
    go_wp2_with fail
    go_ret
    exact ⟨_, rfl, ⟨A, 0, C, B, rfl, S1.out, by omega, by omega, m1, F1.out⟩, T, KB.out⟩
  obtain ⟨g, rfl⟩ : ∃ g, A = some ⟨g, 0, none⟩ := by
    rcases OW.out.2 with ⟨_, h1⟩ | ⟨g', cap, cur, e1, _⟩
    · have := HBL.out; rw [h1] at this; exact absurd this.symm hn0
    · cases e1; exact ⟨_, rfl⟩
  have hgw : w.heap.size ≤ g := (OW.out.lt g rfl).1
  have hnI : ¬ (n : Int) = 0 := by omega
  go_wp2_with fail
  refine (next_t 4 _ T (by omega) (by omega)).mono ?_
  clear T
  rintro e w2 ⟨r, rfl, r0, r1, T, k2⟩
  have own2 := OW.out.nxb hbw k2
  have kb2 := KB.out.nxb k2
  have s2 : Slb 1 encB b w2 (some ⟨g, 0, none⟩) n B := by
    obtain ⟨A', C', e1, s, _⟩ := own2.slf (fun _ => rfl)
    rw [HBL.out] at e1 s
    cases e1
    exact s.slb hbw
  clear k2
  by_cases hr0 : r = 0
  · subst hr0
    have O2 := Lib.hid own2
    clear own2 S1
    have s2 := Lib.hid s2
    go_wp2_with fail
    refine (next_t n _ T (by omega) (by omega)).mono ?_
    clear T
    rintro e w3 ⟨q, rfl, q0, q1, T, k3⟩
    obtain ⟨q, rfl⟩ := Int.eq_ofNat_of_zero_le q0
    have kb3 := kb2.nxb k3
    have own3 := O2.out.nxb hbw k3
    have s3 : Slb 1 encB b w3 (some ⟨g, 0, none⟩) n B := by
      obtain ⟨A', C', e1, s, _⟩ := own3.slf (fun _ => rfl)
      rw [HBL.out] at e1 s
      cases e1
      exact s.slb hbw
    have s4 : Hid (Slb 1 encB b w3 (some ⟨g, 0, none⟩) q (B.take q)) := Lib.hid (Rd.take s3 (m := q) (by omega))
    have KB3 := Lib.hid kb3
    have hqn : (q : Int) ≤ (C : Int) := by omega
    clear own3 s3 kb3 k3 O2 kb2
    go_wp2_with fail
    go_ret
    exact ⟨_, rfl, ⟨_, q, C, _, rfl, s4.out, by omega, by omega, m1, F1.out⟩, T, KB3.out⟩
  by_cases hr1 : r = 1
  · subst hr1
    have O2 := Lib.hid own2
    clear own2 S1 s2
    go_wp2_with fail
    refine (next_t 256 _ T (by omega) (by omega)).mono ?_
    clear T
    rintro e w3 ⟨q, rfl, q0, q1, T, k3⟩
    obtain ⟨y, rfl⟩ := byte_natB q0 (by omega)
    have hy := y.toNat_lt
    have kb3 := kb2.nxb k3
    have own3 := O2.out.nxb hbw k3
    have zz := kb3.size
    have hbl : B.length ≤ 1000000 := by rw [HBL.out]; omega
    have hbn := HBL
    have own3' : OwnL 1 encB 5 w.heap.size w3 (.slice (some ⟨g, 0, none⟩) n C) B := by rw [HBL.out] at own3; exact own3
    clear O2 own3
    go_wp2_with (at_builtin; (refine wpList_append_lit (enc := encB) w3 rfl _ _ 23 rfl w.heap.size 5 (.int .u8 0) 1 1 Tryd.underlying23 Tryd.infoB rfl (by omega) (by omega) _ _ own3' rfl y _ rfl rfl (by simp [encB, Value.oneCell']) _ (by simp) rfl (by omega) (by omega) _ ?_); intro v4 w4 own4 ch0 ch1 _)
    go_ret
    have T4 : TK w4 b := TP.chg T (ch1.mono (fun x (hx : x < b + 1) => by show x < w.heap.size; omega)) (fun _ hk => hk)
    exact ⟨_, rfl, own_bytesb own4 (by rw [List.length_append, hbn.out]; simp; omega) hbw, T4, Chg.trans kb3 (ch1.mono (fun x hx => hx.1))⟩
  · have hd0 : ¬ r = 0 := hr0
    have hd1 : ¬ r = 1 := hr1
    have O2 := Lib.hid own2
    clear own2 S1 s2
    go_wp2_with fail
    refine (next_t n _ T (by omega) (by omega)).mono ?_
    clear T
    rintro e w3 ⟨j, rfl, j0, j1, T, k3⟩
    obtain ⟨j, rfl⟩ := Int.eq_ofNat_of_zero_le j0
    have kb3 := kb2.nxb k3
    have O3 := Lib.hid (O2.out.nxb hbw k3)
    clear k3 O2 kb2
    go_wp2_with fail
    refine (next_t 256 _ T (by omega) (by omega)).mono ?_
    clear T
    rintro e w4 ⟨q, rfl, q0, q1, T, k4⟩
    have kb4 := kb3.nxb k4
    have O4 := Lib.hid (O3.out.nxb hbw k4)
    clear k4 O3 kb3
    go_wp2_with fail
    refine (pick_t (n := 5) 0 255 [0, 1, 128, 255, q] T rfl rfl rfl (by omega) (by omega) (by intro x hx; simp at hx; omega)).mono ?_
    clear T
    rintro e w5 ⟨p, rfl, p0, p1, T, k5⟩
    have kb5 := kb4.nxb k5
    have O5 := Lib.hid (O4.out.nxb hbw k5)
    obtain ⟨y, rfl⟩ := byte_natB p0 p1
    have hy := y.toNat_lt
    have own5 := O5.out
    rw [HBL.out] at own5
    obtain ⟨c0, f0, hset⟩ := own_cellB own5 (j := j) (by omega)
    have hset := Lib.hid (hset y)
    have T' := Lib.hid (T.set (p := ⟨g, j, none⟩) (.int .u8 y.toNat) (by show b < g; omega))
    have kb6 := Lib.hid (kb5.setNew (p := ⟨g, j, none⟩) (.int .u8 y.toNat) hgw)
    have hjn : (j : Int) < (n : Int) := by omega
    clear O4 O5 k5 kb4 kb5 own5 T
    go_wp2_with fail
    go_ret
    have hl : (B.set j y).length = n := by rw [List.length_set]; exact HBL.out
    have hs2 := hset.out
    exact ⟨_, rfl, own_bytesb hs2 (by omega) hbw, T'.out, kb6.out⟩

theorem contN_len : ∀ (m : Nat) (out : List Nd) (R : List UInt8) (l : List Nd), contN m out R = some l → l.length = m + out.length := by
  intro m
  induction m with
  | zero => intro out R l h; unfold contN at h; split at h <;> simp at h; subst h; simp
  | succ m ih =>
    intro out R l h
    change (pI R).bind _ = _ at h
    cases h1 : pI R with
    | none => rw [h1] at h; cases h
    | some r1 =>
      rw [h1, Option.bind_some] at h
      cases h2 : pS r1.2 with
      | none => rw [h2] at h; cases h
      | some r2 =>
        rw [h2, Option.bind_some] at h
        cases h3 : pU 4294967295 r2.2 with
        | none => rw [h3] at h; cases h
        | some r3 =>
          rw [h3, Option.bind_some] at h
          have := ih _ _ _ h
          simp at this
          omega
theorem decN_len {B : List UInt8} {l : List Nd} (h : decN B = some l) : l.length ≤ 64 := by
  unfold decN at h
  cases h1 : pU 64 B with
  | none => rw [h1] at h; cases h
  | some r =>
    rw [h1, Option.bind_some] at h
    have := contN_len _ _ _ _ h
    have := pU_le h1
    simp at *; omega
theorem decNd_len (B : List UInt8) : (decNd B).1.length ≤ 64 := by
  unfold decNd
  cases h : decN B with
  | none => simp
  | some l => exact decN_len h
theorem contV_len : ∀ (m : Nat) (row : List (Int × Int)) (R : List UInt8) (r : List (Int × Int) × List UInt8), contV m row R = some r → r.1.length = m + row.length := by
  intro m
  induction m with
  | zero => intro row R r h; unfold contV at h; cases h; simp
  | succ m ih =>
    intro row R r h
    change (pI R).bind _ = _ at h
    cases h1 : pI R with
    | none => rw [h1] at h; cases h
    | some r1 =>
      rw [h1, Option.bind_some] at h
      cases h2 : pI r1.2 with
      | none => rw [h2] at h; cases h
      | some r2 =>
        rw [h2, Option.bind_some] at h
        have := ih _ _ _ h
        simp at this
        omega
theorem contK_len : ∀ (m : Nat) (out : List Lkd) (R : List UInt8) (l : List Lkd), contK m out R = some l → (∀ c ∈ out, c.2.length ≤ 17) → l.length = m + out.length ∧ ∀ c ∈ l, c.2.length ≤ 17 := by
  intro m
  induction m with
  | zero => intro out R l h ho; unfold contK at h; split at h <;> simp at h; subst h; exact ⟨by simp, ho⟩
  | succ m ih =>
    intro out R l h ho
    change (pI R).bind _ = _ at h
    cases h1 : pI R with
    | none => rw [h1] at h; cases h
    | some r1 =>
      rw [h1, Option.bind_some] at h
      cases h2 : pU 17 r1.2 with
      | none => rw [h2] at h; cases h
      | some r2 =>
        rw [h2, Option.bind_some] at h
        cases h3 : contV r2.1 [] r2.2 with
        | none => rw [h3] at h; cases h
        | some r3 =>
          rw [h3, Option.bind_some] at h
          have hl := contV_len _ _ _ _ h3
          have hu := pU_le h2
          have := ih _ _ _ h (fun c hc => by
            rcases List.mem_append.1 hc with hc | hc
            · exact ho c hc
            · simp at hc; subst hc; simp at hl; simp; omega)
          refine ⟨?_, this.2⟩
          have := this.1
          simp at this
          omega
theorem decL_len {B : List UInt8} {l : List Lkd} (h : decL B = some l) : l.length ≤ 64 ∧ ∀ c ∈ l, c.2.length ≤ 17 := by
  unfold decL at h
  cases h1 : pU 64 B with
  | none => rw [h1] at h; cases h
  | some r =>
    rw [h1, Option.bind_some] at h
    have := contK_len _ _ _ _ h (by simp)
    have := pU_le h1
    simp at *
    exact ⟨by omega, by simpa using (contK_len _ _ _ _ h (by simp)).2⟩
theorem decLd_len (B : List UInt8) : (decLd B).1.length ≤ 64 ∧ ∀ c ∈ (decLd B).1, c.2.length ≤ 17 := by
  unfold decLd
  cases h : decL B with
  | none => simp
  | some l => exact decL_len h

set_option maxRecDepth 100000 in
set_option maxHeartbeats 4000000 in
theorem decodes_x (a : Option Addr) (n c : Nat) (B : List UInt8) (w : World) (h : Sl 1 encB w a n B) (hn : n ≤ 200000) (hc : n ≤ c) (hm : c ≤ maxLen) (hf : Form a c) :
    Calls Tryd.prog 28 #[.slice a n c] w fun e w' => e = .returned (.bool true) ∧ Ex w w' := by
  have LN := Lib.hid (decNd_len B)
  have LL := Lib.hid (decLd_len B)
  have HF := Lib.hid hf
  clear hf
  go_enter Tryd.func28, Tryd.ntmps28
  go_wp2_with fail
  (with_reducible refine (decn_p _ _ _ _ _ h (by omega) hc hm HF.out).mono ?_)
  rintro e w1 ⟨v1, rfl, own1, k1⟩
  have h1 := h.nx k1
  clear h
  go_wp2_with fail
  (with_reducible refine (decn_r _ _ _ _ _ h1 hn hc hm HF.out).mono ?_)
  rintro e w2 ⟨v2, rfl, own2, k2⟩
  have h2 := h1.nx k2
  replace own1 := own1.nx k2
  clear h1
  go_wp2_with fail
  (with_reducible refine (decl_p _ _ _ _ _ h2 (by omega) hc hm HF.out).mono ?_)
  rintro e w3 ⟨v3, qs3, rfl, own3, k3⟩
  have h3 := h2.nx k3
  replace own1 := own1.nx k3
  replace own2 := own2.nx k3
  clear h2
  go_wp2_with fail
  (with_reducible refine (decl_r _ _ _ _ _ h3 hn hc hm HF.out).mono ?_)
  rintro e w4 ⟨v4, qs4, rfl, own4, k4⟩
  replace own1 := own1.nx k4
  replace own2 := own2.nx k4
  replace own3 := own3.nx k4
  have kk := ((k1.nx k2).nx k3).nx k4
  have z1 := k1.size
  clear k1 k2 k3 k4 h3
  obtain ⟨a1, c1, rfl, s1, _, _, _⟩ := own1.slf (w0 := w) (fun _ => rfl)
  obtain ⟨a2, c2, rfl, s2, _, _, _⟩ := (own2.base z1).slf (w0 := w) (fun _ => rfl)
  obtain ⟨a3, c3, rfl, s3, _, _, _, _⟩ := OwnN.nl (encA := encI) (encB := encS) (s1 := 2) (s2 := 2) (fun _ => rfl) (fun _ => rfl) own3
  obtain ⟨a4, c4, rfl, s4, _, _, _, _⟩ := OwnN.nl (encA := encI) (encB := encS) (s1 := 2) (s2 := 2) (fun _ => rfl) (fun _ => rfl) own4
  have s1 := s1.sl
  have s2 := s2.sl
  generalize (decNd B).1 = l at s1 s2 LN ⊢
  generalize (decLd B).1 = L at s3 s4 LL ⊢
  generalize (decNd B).2 = eN
  generalize (decLd B).2 = eL
  have hl := LN.out
  have hL := LL.out.1
  have S3 := Lib.hid s3
  have S4 := Lib.hid s4
  clear own1 own2 own3 own4 s3 s4 hn hc hm
  go_wp2_with fail
  (with_reducible refine (samenodes_x _ _ _ _ _ _ _ s1 s2 (by omega)).mono ?_)
  rintro e w5 ⟨rfl, k5⟩
  have s3 := S3.out.nx k5
  have s4 := S4.out.nx k5
  clear s1 s2 S3 S4
  go_wp2_with fail
  (with_reducible refine (samelk_r _ _ _ _ _ _ _ _ _ s3 s4 (by omega) (fun c hc => by have := LL.out.2 c hc; omega)).mono ?_)
  rintro e w6 ⟨rfl, k6⟩
  have hdl : decide (L = L) = true := by simp
  clear s3 s4
  go_wp2_with fail
  go_ret
  exact ⟨rfl, (kk.nx k5).nx k6⟩
end Go.Proofs.YtjaemckdfoaopaaDoor

/- The sanity check of the statements on encodings, and numbers near powers of two. -/
namespace Go.Proofs.YtjaemckdfoaopaaDoor
open Go.RowKit

theorem u64_nat (X : Int) : ∃ N : Nat, IntKind.u64.wrap X = (N : Int) ∧ N < 18446744073709551616 := ⟨(IntKind.u64.wrap X).toNat, by rw [wrap_u64n]; omega, by rw [wrap_u64n]; omega⟩
def EdgePost (b : Nat) (w : World) (e : Ending) (w' : World) : Prop := ∃ N : Nat, e = .returned (.int .u64 N) ∧ N < 18446744073709551616 ∧ TK w' b ∧ Exb b w w'
set_option maxRecDepth 100000 in
set_option maxHeartbeats 400000 in
theorem edges_t {b : Nat} (w : World) (h : TK w b) : Calls Tryd.prog 12 #[.pointer (some ⟨b, 0, none⟩)] w (EdgePost b w) := by
  go_enter Tryd.func12, Tryd.ntmps12
  go_wp2_with fail
  refine (next_t 64 _ h (by omega) (by omega)).mono ?_
  rintro e w1 ⟨r, rfl, r0, r1, t1, k1⟩
  obtain ⟨r, rfl⟩ := Int.eq_ofNat_of_zero_le r0
  go_wp2_with fail
  refine (next_t 3 _ t1 (by omega) (by omega)).mono ?_
  rintro e w2 ⟨q, rfl, q0, q1, t2, k2⟩
  obtain ⟨q, rfl⟩ := Int.eq_ofNat_of_zero_le q0
  have k := k1.nxb k2
  clear k1 k2 t1 h
  go_wp2_with fail
  go_ret
  refine ⟨_, congrArg (fun x => Ending.returned (Value.int .u64 x)) (Classical.choose_spec (u64_nat _)).1, (Classical.choose_spec (u64_nat _)).2, t2, k⟩

theorem sl_lit {w : World} {ty : TypeId} (l : List UInt8) {cs : Array Value} {n s : Nat} (hs : s = w.heap.size) (hn : l.length = n) (hc : cs = (l.flatMap encB).toArray) : Sl 1 encB (w.alloc (.cells cs ty)) (some ⟨s, 0, none⟩) n l :=
  Sl.lit l hs hn (fun _ => rfl) hc

set_option maxRecDepth 100000 in
set_option maxHeartbeats 2000000 in
theorem sane3_x (w : World) : Calls Tryd.prog 7 #[] w fun e w' => e = .returned (.bool true) ∧ Ex w w' := by
  have E1 : Hid (strB (encU 300) = ⟨#[172, 2]⟩) := (by decide +kernel : strB (encU 300) = ⟨#[172, 2]⟩)
  have E2 : Hid (strB (encU (zig (-1))) = ⟨#[1]⟩) := (by decide +kernel : strB (encU (zig (-1))) = ⟨#[1]⟩)
  have E3 : Hid (strB (encStr ⟨#[97, 98]⟩) = ⟨#[2, 97, 98]⟩) := (by decide +kernel : strB (encStr ⟨#[97, 98]⟩) = ⟨#[2, 97, 98]⟩)
  have E4 : Hid (decR [128, 0] = (0, 0, 4)) := (by decide +kernel : decR [128, 0] = (0, 0, 4))
  have E5 : Hid (strR [2, 97, 98, 99] 5 = (⟨#[97, 98]⟩, 3, 0)) := (by decide +kernel : strR [2, 97, 98, 99] 5 = (⟨#[97, 98]⟩, 3, 0))
  go_enter Tryd.func7, Tryd.ntmps7
  go_wp2_with fail
  refine (appuint_p none 0 0 [] 300 _ (Sl.nil _ _ _ _) (by omega) (fun _ => rfl) (by omega)).mono ?_
  rintro e w1 ⟨v, rfl, own1, k1⟩
  obtain ⟨A1, N1, C1, rfl, s1, _⟩ := run_own own1
  clear own1
  go_wp2_with fail
  refine (appint_p none 0 0 [] (-1) _ (Sl.nil _ _ _ _) (by omega) (fun _ => rfl) (by omega) (by omega)).mono ?_
  rintro e w2 ⟨v, rfl, own2, k2⟩
  obtain ⟨A2, N2, C2, rfl, s2, _⟩ := run_own own2
  have k := k1.nx k2
  replace s1 := s1.nx k2
  clear own2 k1 k2
  go_wp2_with fail
  refine (appstr_p none 0 0 [] ⟨#[97, 98]⟩ _ (Sl.nil _ _ _ _) (by omega) (fun _ => rfl) (by decide)).mono ?_
  rintro e w3 ⟨v, rfl, own3, k3⟩
  obtain ⟨A3, N3, C3, rfl, s3, _⟩ := run_own own3
  replace k := k.nx k3
  replace s1 := s1.nx k3
  replace s2 := s2.nx k3
  clear own3 k3
  go_wp2_with fail
  refine (uint_p _ 2 2 [128, 0] _ (sl_lit (cs := #[.int .u8 128, .int .u8 0]) _ rfl rfl rfl) (by omega)).mono ?_
  rintro e w4 ⟨rfl, rfl⟩
  rw [E4.out]
  have kk := Ex.new w3 (.cells #[.int .u8 128, .int .u8 0] 5)
  replace k := k.nx kk
  replace s1 := s1.nx kk
  replace s2 := s2.nx kk
  replace s3 := s3.nx kk
  clear kk
  go_wp2_with fail
  refine (string_p _ 4 4 [2, 97, 98, 99] 5 _ (sl_lit (cs := #[.int .u8 2, .int .u8 97, .int .u8 98, .int .u8 99]) _ (by simp) rfl rfl) (by omega) (by omega) (by unfold maxLen; omega) (by omega)).mono ?_
  rintro e w5 ⟨rfl, rfl⟩
  rw [E5.out]
  have kk := Ex.new (w3.alloc (.cells #[.int .u8 128, .int .u8 0] 5)) (.cells #[.int .u8 2, .int .u8 97, .int .u8 98, .int .u8 99] 5)
  replace k := k.nx kk
  have r1 := run_later (cap := C1) s1 kk
  have r2 := run_later (cap := C2) s2 kk
  have r3 := run_later (cap := C3) s3 kk
  rw [show ([] : List UInt8) ++ encU 300 = encU 300 from rfl, E1.out] at r1
  rw [show ([] : List UInt8) ++ encU (zig (-1)) = encU (zig (-1)) from rfl, E2.out] at r2
  rw [show ([] : List UInt8) ++ encStr ⟨#[97, 98]⟩ = encStr ⟨#[97, 98]⟩ from rfl, E3.out] at r3
  have K := Lib.hid k
  clear s1 s2 s3 k kk
  go_wp2_with fail
  go_ret
  exact ⟨rfl, K.out⟩
end Go.Proofs.YtjaemckdfoaopaaDoor

/- The statement WireNodes: what it computes. -/
namespace Go.Proofs.YtjaemckdfoaopaaDoor
open Go.RowKit

/-- links in memory, not in block b -/
def NLb (b : Nat) (w : World) (a : Option Addr) (n : Nat) (L : List Lkd) : Prop :=
  ∃ qs : List (Int × Hdr), Slb 2 (encP encI) b w a n qs ∧ L.length = n ∧ ∀ (j : Nat) (q : Int × Hdr) (c : Lkd), qs[j]? = some q → L[j]? = some c → q.1 = c.1 ∧ Slb 2 encS b w q.2.1 q.2.2.1 c.2
theorem NLb.nxb {b : Nat} {w w' : World} {a : Option Addr} {n : Nat} {L : List Lkd} (h : NLb b w a n L) (k : Exb b w w') : NLb b w' a n L := by
  obtain ⟨qs, h1, h2, h3⟩ := h
  exact ⟨qs, h1.nxb k, h2, fun j q c hq hc => ⟨(h3 j q c hq hc).1, (h3 j q c hq hc).2.nxb k⟩⟩
theorem NLb.nl {b : Nat} {w : World} {a : Option Addr} {n : Nat} {L : List Lkd} (h : NLb b w a n L) : LkL w a n L := by
  obtain ⟨qs, h1, h2, h3⟩ := h
  exact ⟨qs, h1.sl, h2, fun j q c hq hc => ⟨(h3 j q c hq hc).1, (h3 j q c hq hc).2.sl⟩⟩
theorem NL.nlb {b : Nat} {w : World} {a : Option Addr} {n : Nat} {L : List Lkd} (h : LkL w a n L) (hb : w.heap.size ≤ b) : NLb b w a n L := by
  obtain ⟨qs, h1, h2, h3⟩ := h
  exact ⟨qs, h1.slb hb, h2, fun j q c hq hc => ⟨(h3 j q c hq hc).1, (h3 j q c hq hc).2.slb hb⟩⟩
theorem OwnN.nlb {base b : Nat} {w : World} {v : Value} {qs : List (Int × Hdr)} {L : List Lkd} (h : OwnLk base w v qs L) (hb : b < base) :
    ∃ a cap, v = .slice a L.length cap ∧ NLb b w a L.length L ∧ L.length ≤ cap ∧ cap ≤ maxLen := by
  obtain ⟨a, cap, e, r, c1, c2, c3, c4⟩ := h.1.rd (fun _ => rfl)
  rw [h.2.1] at e r c1
  refine ⟨a, cap, e, ⟨qs, Rd.mono r (fun k hk => ⟨hk.2, by have := hk.1; omega⟩), rfl, fun j q c hq hc => ?_⟩, c1, c2⟩
  obtain ⟨r1, r2⟩ := h.2.2.1 j q c hq hc
  refine ⟨r1, ?_⟩
  obtain ⟨a', cap', e', r', _⟩ := r2.rd (fun _ => rfl)
  obtain ⟨x, q1, q2, q3⟩ := q
  simp only [Hdr.val, Value.slice.injEq] at e'
  obtain ⟨rfl, rfl, rfl⟩ := e'
  exact Rd.mono r' (fun k hk => ⟨hk.2, by have := hk.1; omega⟩)
theorem encNds_len (l : List Nd) : (encNds l).1.length ≤ 100000 := by
  unfold encNds
  split
  · simp
  · split
    · simp
    · rename_i h1 h2
      have h3 := enc_take_le l l.length (fun j z _ hz => by
        have hm := List.mem_of_getElem? hz
        by_cases hk : 64 < z.key.size
        · exact absurd (List.any_eq_true.2 ⟨z, hm, by simpa using hk⟩) h2
        · omega)
      rw [List.take_length] at h3
      have h4 := encU_length l.length
      simp only [List.length_append]
      omega
theorem encLks_len (l : List Lkd) : (encLks l).1.length ≤ 100000 := by
  unfold encLks
  split
  · simp
  · split
    · simp
    · rename_i h1 h2
      have h3 := encl_take_le l l.length (fun j z _ hz => by
        have hm := List.mem_of_getElem? hz
        by_cases hk : 17 < z.2.length
        · exact absurd (List.any_eq_true.2 ⟨z, hm, by simpa using hk⟩) h2
        · omega)
      rw [List.take_length] at h3
      have h4 := encU_length l.length
      simp only [List.length_append]
      omega
theorem links3_t {b : Nat} (a : Option Addr) (n cp : Nat) (l : List Nd) (lev : Int) (w : World) (h : TK w b) (hs : Slb 3 encN b w a n l) (hn : n ≤ 100) (hw : ∀ x ∈ l, x.word < 4294967296) (hi : ∀ x ∈ l, I64 x.id) :
    Calls Tryd.prog 20 #[.pointer (some ⟨b, 0, none⟩), .slice a n cp, .int .i64 lev, .int .i64 3] w (LinksPost n 3 b w) := links_t a n cp l lev 3 w h hs hn (by omega) hw hi
theorem roster6_t {b : Nat} (w : World) (h : TK w b) (hL : LetG w) (hgb : ¬ 0 = b) :
    Calls Tryd.prog 19 #[.pointer (some ⟨b, 0, none⟩), .int .i64 6] w fun e w' => ∃ v L, e = .returned v ∧ RosterOf 6 b w w' v L := roster_t 6 w h hL hgb (by omega) (by omega)
theorem nok_w {x : Nd} (h : NOk x) : x.word < 4294967296 := h.2.1
theorem nok_i {x : Nd} (h : NOk x) : I64 x.id := h.1
theorem nok_e {x : Nd} (h : NOk x) : NOkE x := ⟨h.1.1, h.1.2, h.2.1, by have := h.2.2; omega⟩
def WnRel (b : Nat) (w0 : World) (vn vl i : Value) (wr : World) : Prop :=
  ∃ (k : Nat) (a : Option Addr) (n c : Nat) (L : List Nd) (a' : Option Addr) (n' c' : Nat) (M : List Lkd), k ≤ 2 ∧ i = .int .i64 k ∧ vn = .slice a n c ∧ vl = .slice a' n' c' ∧ Slb 3 encN b wr a n L ∧ n ≤ 1000 ∧ (∀ x ∈ L, NOkE x) ∧ NLb b wr a' n' M ∧ n' ≤ 1000 ∧ (∀ c ∈ M, LOkE c) ∧
    Exl b w0 wr ∧ TK wr b
theorem own_run {base : Nat} {w : World} {v : Value} {l : List UInt8} (h : OwnL 1 encB 5 base w v l) (hl : l.length ≤ 100000) :
    ∃ a n cap, v = .slice a n cap ∧ (convert 23 9 (.slice a n cap)).run Tryd.prog w = .ok (.string (strB l)) w ∧ n ≤ 100000 ∧ n ≤ cap ∧ cap ≤ maxLen ∧ Form a cap ∧ (a = none → cap = 0) := by
  obtain ⟨a, c, rfl, r, c1, c2, c3⟩ := h.rd (fun _ => rfl)
  have s : Sl 1 encB w a l.length l := Rd.mono r (fun _ hk => hk.2)
  have f := own_form h
  exact ⟨a, _, c, rfl, run_str Tryd.underlying23 Tryd.underlying5 Tryd.underlying9 s, hl, c1, c2, f, fun h0 => by
    rcases f with ⟨_, h⟩ | ⟨x, o, h⟩
    · exact h
    · rw [h0] at h; cases h⟩
theorem own_slb {base b : Nat} {w : World} {a : Option Addr} {n cap : Nat} {l : List UInt8} (h : OwnL 1 encB 5 base w (.slice a n cap) l) (hb : b < base) : Slb 1 encB b w a n l := by
  obtain ⟨a', c, e, r, _⟩ := h.rd (fun _ => rfl)
  cases e
  exact Rd.mono r (fun k hk => ⟨hk.2, by have := hk.1; omega⟩)

set_option maxRecDepth 100000 in
set_option maxHeartbeats 8000000 in
theorem wirenodes_walk (a1 : Option Addr) (n1 c1 : Nat) (l1 : List Int) (a2 : Option Addr) (n2 c2 : Nat) (l2 : List Nd) (a3 : Option Addr) (n3 c3 : Nat) (l3 : List Lkd) (a4 : Option Addr) (n4 c4 : Nat) (l4 : List UInt8) (w : World) (h1 : Sl 1 encI w a1 n1 l1) (hc1 : n1 ≤ c1) (hm1 : c1 ≤ maxLen)
    (h2 : Sl 3 encN w a2 n2 l2) (hw : ∀ x ∈ l2, NOkE x) (h3 : LkL w a3 n3 l3) (hv : ∀ c ∈ l3, LOkE c) (h4 : Sl 1 encB w a4 n4 l4) (hc4 : n4 ≤ c4) (hm4 : c4 ≤ maxLen) (hf4 : Form a4 c4) (hL : LetG w) :
    Calls Tryd.prog 5 #[.slice a1 n1 c1, .slice a2 n2 c2, .slice a3 n3 c3, .slice a4 n4 c4] w fun e w' => e = .returned (.bool true) ∧ Ex w w' := by
  have W2 := Lib.hid hw
  have W3 := Lib.hid hv
  have F4 := Lib.hid hf4
  clear hw hv hf4
  go_enter Tryd.func5, Tryd.ntmps5
  go_wp2_with fail
  refine (new_t _ _ _ l1 _ h1 hc1 hm1).mono ?_
  rintro e w1 ⟨rfl, T, kk, z1⟩
  obtain ⟨b, hb⟩ : ∃ b, b = w.heap.size := ⟨_, rfl⟩
  rw [← hb] at T ⊢
  have hgl : ¬ 0 = b := by have := hL.lt; omega
  have hwb : w.heap.size ≤ b := by omega
  have S2 : Slb 3 encN b w1 a2 n2 l2 := (h2.slb hwb).nxb (kk.b b)
  have S3 : NLb b w1 a3 n3 l3 := (h3.nlb hwb).nxb (kk.b b)
  have S4 : Slb 1 encB b w1 a4 n4 l4 := (h4.slb hwb).nxb (kk.b b)
  have L1 := Lib.hid (hL.nx kk)
  have QL : Exl b w w1 := ⟨kk, by omega⟩
  clear h1 h2 h3 h4 hL kk hb z1
  have hbo := T.lt
  go_wp2_with fail
  refine (roster6_t _ T L1.out hgl).mono ?_
  rintro e x1 ⟨v1, LX, rfl, R⟩
  have k1 := R.k
  have T1 := R.tape
  have RL := R.len
  have RW := Lib.hid (roster_ok R.ok)
  obtain ⟨aX, cX, rfl, SX, oX, mX, nilX⟩ := R.own.slf (fun _ => rfl)
  have SX := SX.slb hbo
  have S2 := S2.nxb k1
  have S3 := S3.nxb k1
  have S4 := S4.nxb k1
  have L1 := Lib.hid (L1.out.nxb hgl k1)
  have QL := QL.nxb k1
  have NILX := Lib.hid nilX
  clear R T k1 hbo nilX
  have hnX : LX.length ≤ 6 := RL
  have hbo := T1.lt
  go_wp2_with fail
  refine (height_t _ _ _ _ _ T1 SX (by omega) (fun x hx => nok_w (RW.out x hx).1)).mono ?_
  rintro e x2 ⟨r, rfl, hr, T, k2⟩
  have S2 := S2.nxb k2
  have S3 := S3.nxb k2
  have S4 := S4.nxb k2
  have SX := SX.nxb k2
  have L1 := Lib.hid (L1.out.nxb hgl k2)
  have QL := QL.nxb k2
  clear T1 k2 hbo
  have hbo := T.lt
  go_wp2_with fail
  (with_reducible refine (links3_t _ _ _ _ _ _ T SX (by omega) (fun x hx => nok_w (RW.out x hx).1) (fun x hx => nok_i (RW.out x hx).1)).mono ?_)
  rintro e x3 ⟨vL, qL, MX, rfl, OL, LO, T2, k3⟩
  have S2 := S2.nxb k3
  have S3 := S3.nxb k3
  have S4 := S4.nxb k3
  have SX := SX.nxb k3
  have L1 := Lib.hid (L1.out.nxb hgl k3)
  have QL := QL.nxb k3
  obtain ⟨aL, cL, rfl, SL, oL, mL⟩ := OL.nlb hbo
  have hnL : MX.length ≤ 1000 := by have := LO.1; omega
  have LOKX : Hid (∀ c ∈ MX, LOkE c) := Lib.hid (fun c hc => by
    obtain ⟨i1, i2, i3⟩ := LO.2 c hc
    exact ⟨i1, by omega, i3⟩)
  clear T k3 OL LO hbo
  have hbo := T2.lt
  go_wp2_with fail
  refine (bool_t 3 _ T2 (by omega) (by omega)).mono ?_
  rintro e x4 ⟨rb, rfl, T, k4⟩
  have S2 := S2.nxb k4
  have S3 := S3.nxb k4
  have S4 := S4.nxb k4
  have SX := SX.nxb k4
  have SL := SL.nxb k4
  have L1 := Lib.hid (L1.out.nxb hgl k4)
  have QL := QL.nxb k4
  clear T2 k4 hbo
  have hbo := T.lt
  -- the nodes, perhaps odd ones
  have KEY : ∀ (v : Value) (wk : World), (∃ (a : Option Addr) (n c : Nat) (L : List Nd), v = .slice a n c ∧ Slb 3 encN b wk a n L ∧ n ≤ 1000 ∧ (∀ x ∈ L, NOkE x)) → NLb b wk aL MX.length MX → Exl b w wk → TK wk b → WnRel b w v (.slice aL MX.length cL) (.int .i64 0) wk := by
    rintro v wk ⟨a, n, c, L, rfl, s, hn, ho⟩ sl q t
    exact ⟨0, a, n, c, L, aL, MX.length, cL, MX, by omega, rfl, rfl, rfl, s, hn, ho, sl, hnL, LOKX.out, q, t⟩
  have KEY := Lib.hid KEY
  have RN : Hid (∀ x ∈ LX, NOk x) := Lib.hid (fun x hx => (RW.out x hx).1)
  clear RW
  cases rb with
  | true =>
    go_wp2_with fail
    refine (oddroster_t _ _ _ _ _ T SX NILX.out (by omega) RN.out L1.out hgl).mono ?_
    rintro e x5 ⟨v5, L5, rfl, O⟩
    have k5 := O.k
    have T5 := O.tape
    have OL := O.len
    have OO := O.ok
    obtain ⟨a5, c5, rfl, S5, _, _, _⟩ := O.own.slf (fun _ => rfl)
    have S5 := S5.slb hbo
    have S2 := S2.nxb k5
    have S3 := S3.nxb k5
    have S4 := S4.nxb k5
    have SL := SL.nxb k5
    have QL := QL.nxb k5
    have QW := Lib.hid (KEY.out _ _ ⟨a5, L5.length, c5, L5, rfl, S5, by omega, fun x hx => nok_e (OO x hx)⟩ SL QL T5)
    clear O k5 T5 OL OO S5 SL QL KEY T SX L1
    obtain ⟨S2, S3, S4⟩ : Slb 3 encN b x5 a2 n2 l2 ∧ NLb b x5 a3 n3 l3 ∧ Slb 1 encB b x5 a4 n4 l4 := ⟨S2, S3, S4⟩
    have S2 := Lib.hid S2
    have S3 := Lib.hid S3
    have S4 := Lib.hid S4
    have E5 : Hid (Exb b x5 x5) := Lib.hid (Exb.refl b x5)
    go_wp2_with fail
    go_loopw [10, 11, 12] (fun vn vl i wr => WnRel b w vn vl i wr ∧ Exb b x5 wr) (fun _ _ i _ => 2 - (intOf i).toNat)
    case atStart => exact ⟨QW.out, E5.out⟩
    case round =>
      clear QW
      obtain ⟨⟨k, a, n, c, L, a', n', c', M, hk, rfl, rfl, rfl, SN, hnn, NOKS, SL, hnl, LOKS, Q, T⟩, kx⟩ := hrel
      obtain ⟨wo, rfl⟩ : ∃ wo : World, wo = wr := ⟨_, rfl⟩
      have NOKS := Lib.hid NOKS
      have LOKS := Lib.hid LOKS
      have KX0 := Lib.hid kx
      clear kx
      by_cases hlt : k < 2
      · have hk2 : k + 1 ≤ 2 := by omega
        have hcase : (k = 1 ∧ n2 ≤ 200 ∧ n3 ≤ 200) ∨ k = 0 ∨ (k = 1 ∧ ¬ n2 ≤ 200) ∨ (k = 1 ∧ n2 ≤ 200 ∧ ¬ n3 ≤ 200) := by omega
        rcases hcase with ⟨hk1, hn2, hn3⟩ | hk1 | ⟨hk1, hn2⟩ | ⟨hk1, hn2, hn3⟩
        · have d1 : ((k : Int) == 1) = true := by simp; omega
          have d2 : (n2 : Int) ≤ 200 := by omega
          have d3 : (n3 : Int) ≤ 200 := by omega
          clear SN SL NOKS LOKS hnn hnl
          have SN := S2.out.nxb KX0.out
          have SL := S3.out.nxb KX0.out
          have NOKS := W2
          have LOKS := W3
          have hnn : n2 ≤ 1000 := by omega
          have hnl : n3 ≤ 1000 := by omega
          clear hk1 hk
          have hbo := T.lt
          go_wp2_with fail
          (with_reducible refine (encn_p _ _ _ _ _ SN.sl hnn NOKS.out).mono ?_)
          rintro e x1 ⟨v1, rfl, own1, k1⟩
          replace SN := SN.nxb (k1.b b)
          go_wp2_with fail
          (with_reducible refine (encn_r _ _ _ _ _ SN.sl hnn NOKS.out).mono ?_)
          rintro e x2 ⟨v2, rfl, own2, k2⟩
          replace SN := SN.nxb (k2.b b)
          replace SL := (SL.nxb (k1.b b)).nxb (k2.b b)
          replace own1 := own1.nx k2
          go_wp2_with fail
          (with_reducible refine (encl_p _ _ _ _ _ SL.nl hnl LOKS.out).mono ?_)
          rintro e x3 ⟨v3, rfl, own3, k3⟩
          replace SN := SN.nxb (k3.b b)
          replace SL := SL.nxb (k3.b b)
          replace own1 := own1.nx k3
          replace own2 := own2.nx k3
          go_wp2_with fail
          (with_reducible refine (encl_r _ _ _ _ _ SL.nl hnl LOKS.out).mono ?_)
          rintro e x4 ⟨v4, rfl, own4, k4⟩
          have SN := Lib.hid (SN.nxb (k4.b b))
          have SL := Lib.hid (SL.nxb (k4.b b))
          replace own1 := own1.nx k4
          replace own2 := own2.nx k4
          replace own3 := own3.nx k4
          have KX := Lib.hid ((((Q.nx k1).nx k2).nx k3).nx k4)
          have KT := Lib.hid (((k1.nx k2).nx k3).nx k4)
          replace T := ((((T.nx k1).nx k2).nx k3).nx k4)
          have z1 := k1.size
          have z2 := k2.size
          have z3 := k3.size
          have hb2 : b < x1.heap.size := by omega
          have hb4 : b < x3.heap.size := by omega
          have LN0 := encNds_len l2
          have LL1 := encLks_len l3
          obtain ⟨⟨bn, en⟩, hbn⟩ : ∃ r, r = encNds l2 := ⟨_, rfl⟩
          obtain ⟨⟨bl, el⟩, hbl⟩ : ∃ r, r = encLks l3 := ⟨_, rfl⟩
          rw [← hbn] at own1 own2 LN0 ⊢
          rw [← hbl] at own3 own4 LL1 ⊢
          clear hbn hbl k1 k2 k3 k4 z1 z2 z3 Q
          obtain ⟨ya1, yn1, yc1, rfl, r1, _, _, _, _, _⟩ := own_run own1 LN0
          obtain ⟨ya2, yn2, yc2, rfl, r2, yl2, o2, m2, f2, nil2⟩ := own_run own2 LN0
          obtain ⟨ya3, yn3, yc3, rfl, r3, _, _, _, _, _⟩ := own_run own3 LL1
          obtain ⟨ya4, yn4, yc4, rfl, r4, yl4, o4, m4, f4, nil4⟩ := own_run own4 LL1
          have s2 := own_slb own2 hb2
          have s4 := own_slb own4 hb4
          have F2 := Lib.hid f2
          have F4 := Lib.hid f4
          have NIL2 := Lib.hid nil2
          have NIL4 := Lib.hid nil4
          clear own1 own2 own3 own4 LN0 LL1 f2 f4 nil2 nil4
          go_wp2_with fail
          (with_reducible refine (decodes_x _ _ _ _ _ s2.sl (by omega) o2 m2 F2.out).mono ?_)
          rintro e x5 ⟨rfl, k5⟩
          replace s2 := s2.nxb (k5.b b)
          replace s4 := s4.nxb (k5.b b)
          replace T := T.nx k5
          clear r1 r2 r3 r4
          go_wp2_with fail
          (with_reducible refine (decodes_x _ _ _ _ _ s4.sl (by omega) o4 m4 F4.out).mono ?_)
          rintro e x6 ⟨rfl, k6⟩
          replace s2 := s2.nxb (k6.b b)
          replace s4 := s4.nxb (k6.b b)
          replace T := T.nx k6
          go_wp2_with fail
          (with_reducible refine (damage_t _ _ _ _ _ T s2.sl yl2 NIL2.out).mono ?_)
          clear T
          rintro e x7 ⟨v7, rfl, ⟨ya7, yn7, yc7, B7, rfl, s7, l7, o7, m7, f7⟩, T, k7⟩
          replace s4 := s4.nxb k7
          have f7 := Lib.hid f7
          go_wp2_with fail
          (with_reducible refine (decodes_x _ _ _ _ _ s7.sl (by omega) o7 m7 f7.out).mono ?_)
          rintro e x8 ⟨rfl, k8⟩
          replace s4 := s4.nxb (k8.b b)
          replace T := T.nx k8
          clear s2 s7
          go_wp2_with fail
          (with_reducible refine (damage_t _ _ _ _ _ T s4.sl yl4 NIL4.out).mono ?_)
          clear T
          rintro e x9 ⟨v9, rfl, ⟨ya9, yn9, yc9, B9, rfl, s9, l9, o9, m9, f9⟩, T, k9⟩
          have f9 := Lib.hid f9
          clear s4
          go_wp2_with fail
          (with_reducible refine (decodes_x _ _ _ _ _ s9.sl (by omega) o9 m9 f9.out).mono ?_)
          rintro e x10 ⟨rfl, k10⟩
          replace T := T.nx k10
          have KK := Lib.hid ((((((k5.b b).nxb (k6.b b)).nxb k7).nxb (k8.b b)).nxb k9).nxb (k10.b b))
          clear s9 k5 k6 k7 k8 k9 k10
          go_wp2_with fail
          exact ⟨⟨⟨k + 1, a2, n2, c2, l2, a3, n3, c3, l3, by omega, by go_num, rfl, rfl, SN.out.nxb KK.out, hnn, NOKS.out, SL.out.nxb KK.out, hnl, LOKS.out, KX.out.nxb KK.out, T⟩, (KX0.out.nxb (KT.out.b b)).nxb KK.out⟩, by simp [intOf]; omega⟩
        · have d1 : ((k : Int) == 1) = false := by simp; omega
          clear hk1 hk
          have hbo := T.lt
          go_wp2_with fail
          (with_reducible refine (encn_p _ _ _ _ _ SN.sl hnn NOKS.out).mono ?_)
          rintro e x1 ⟨v1, rfl, own1, k1⟩
          replace SN := SN.nxb (k1.b b)
          go_wp2_with fail
          (with_reducible refine (encn_r _ _ _ _ _ SN.sl hnn NOKS.out).mono ?_)
          rintro e x2 ⟨v2, rfl, own2, k2⟩
          replace SN := SN.nxb (k2.b b)
          replace SL := (SL.nxb (k1.b b)).nxb (k2.b b)
          replace own1 := own1.nx k2
          go_wp2_with fail
          (with_reducible refine (encl_p _ _ _ _ _ SL.nl hnl LOKS.out).mono ?_)
          rintro e x3 ⟨v3, rfl, own3, k3⟩
          replace SN := SN.nxb (k3.b b)
          replace SL := SL.nxb (k3.b b)
          replace own1 := own1.nx k3
          replace own2 := own2.nx k3
          go_wp2_with fail
          (with_reducible refine (encl_r _ _ _ _ _ SL.nl hnl LOKS.out).mono ?_)
          rintro e x4 ⟨v4, rfl, own4, k4⟩
          have SN := Lib.hid (SN.nxb (k4.b b))
          have SL := Lib.hid (SL.nxb (k4.b b))
          replace own1 := own1.nx k4
          replace own2 := own2.nx k4
          replace own3 := own3.nx k4
          have KX := Lib.hid ((((Q.nx k1).nx k2).nx k3).nx k4)
          have KT := Lib.hid (((k1.nx k2).nx k3).nx k4)
          replace T := ((((T.nx k1).nx k2).nx k3).nx k4)
          have z1 := k1.size
          have z2 := k2.size
          have z3 := k3.size
          have hb2 : b < x1.heap.size := by omega
          have hb4 : b < x3.heap.size := by omega
          have LN0 := encNds_len L
          have LL1 := encLks_len M
          obtain ⟨⟨bn, en⟩, hbn⟩ : ∃ r, r = encNds L := ⟨_, rfl⟩
          obtain ⟨⟨bl, el⟩, hbl⟩ : ∃ r, r = encLks M := ⟨_, rfl⟩
          rw [← hbn] at own1 own2 LN0 ⊢
          rw [← hbl] at own3 own4 LL1 ⊢
          clear hbn hbl k1 k2 k3 k4 z1 z2 z3 Q
          obtain ⟨ya1, yn1, yc1, rfl, r1, _, _, _, _, _⟩ := own_run own1 LN0
          obtain ⟨ya2, yn2, yc2, rfl, r2, yl2, o2, m2, f2, nil2⟩ := own_run own2 LN0
          obtain ⟨ya3, yn3, yc3, rfl, r3, _, _, _, _, _⟩ := own_run own3 LL1
          obtain ⟨ya4, yn4, yc4, rfl, r4, yl4, o4, m4, f4, nil4⟩ := own_run own4 LL1
          have s2 := own_slb own2 hb2
          have s4 := own_slb own4 hb4
          have F2 := Lib.hid f2
          have F4 := Lib.hid f4
          have NIL2 := Lib.hid nil2
          have NIL4 := Lib.hid nil4
          clear own1 own2 own3 own4 LN0 LL1 f2 f4 nil2 nil4
          go_wp2_with fail
          (with_reducible refine (decodes_x _ _ _ _ _ s2.sl (by omega) o2 m2 F2.out).mono ?_)
          rintro e x5 ⟨rfl, k5⟩
          replace s2 := s2.nxb (k5.b b)
          replace s4 := s4.nxb (k5.b b)
          replace T := T.nx k5
          clear r1 r2 r3 r4
          go_wp2_with fail
          (with_reducible refine (decodes_x _ _ _ _ _ s4.sl (by omega) o4 m4 F4.out).mono ?_)
          rintro e x6 ⟨rfl, k6⟩
          replace s2 := s2.nxb (k6.b b)
          replace s4 := s4.nxb (k6.b b)
          replace T := T.nx k6
          go_wp2_with fail
          (with_reducible refine (damage_t _ _ _ _ _ T s2.sl yl2 NIL2.out).mono ?_)
          clear T
          rintro e x7 ⟨v7, rfl, ⟨ya7, yn7, yc7, B7, rfl, s7, l7, o7, m7, f7⟩, T, k7⟩
          replace s4 := s4.nxb k7
          have f7 := Lib.hid f7
          go_wp2_with fail
          (with_reducible refine (decodes_x _ _ _ _ _ s7.sl (by omega) o7 m7 f7.out).mono ?_)
          rintro e x8 ⟨rfl, k8⟩
          replace s4 := s4.nxb (k8.b b)
          replace T := T.nx k8
          clear s2 s7
          go_wp2_with fail
          (with_reducible refine (damage_t _ _ _ _ _ T s4.sl yl4 NIL4.out).mono ?_)
          clear T
          rintro e x9 ⟨v9, rfl, ⟨ya9, yn9, yc9, B9, rfl, s9, l9, o9, m9, f9⟩, T, k9⟩
          have f9 := Lib.hid f9
          clear s4
          go_wp2_with fail
          (with_reducible refine (decodes_x _ _ _ _ _ s9.sl (by omega) o9 m9 f9.out).mono ?_)
          rintro e x10 ⟨rfl, k10⟩
          replace T := T.nx k10
          have KK := Lib.hid ((((((k5.b b).nxb (k6.b b)).nxb k7).nxb (k8.b b)).nxb k9).nxb (k10.b b))
          clear s9 k5 k6 k7 k8 k9 k10
          go_wp2_with fail
          exact ⟨⟨⟨k + 1, a, n, c, L, a', n', c', M, by omega, by go_num, rfl, rfl, SN.out.nxb KK.out, hnn, NOKS.out, SL.out.nxb KK.out, hnl, LOKS.out, KX.out.nxb KK.out, T⟩, (KX0.out.nxb (KT.out.b b)).nxb KK.out⟩, by simp [intOf]; omega⟩
        · have d1 : ((k : Int) == 1) = true := by simp; omega
          have d2 : ¬ (n2 : Int) ≤ 200 := by omega
          clear hk1 hk
          have hbo := T.lt
          go_wp2_with fail
          (with_reducible refine (encn_p _ _ _ _ _ SN.sl hnn NOKS.out).mono ?_)
          rintro e x1 ⟨v1, rfl, own1, k1⟩
          replace SN := SN.nxb (k1.b b)
          go_wp2_with fail
          (with_reducible refine (encn_r _ _ _ _ _ SN.sl hnn NOKS.out).mono ?_)
          rintro e x2 ⟨v2, rfl, own2, k2⟩
          replace SN := SN.nxb (k2.b b)
          replace SL := (SL.nxb (k1.b b)).nxb (k2.b b)
          replace own1 := own1.nx k2
          go_wp2_with fail
          (with_reducible refine (encl_p _ _ _ _ _ SL.nl hnl LOKS.out).mono ?_)
          rintro e x3 ⟨v3, rfl, own3, k3⟩
          replace SN := SN.nxb (k3.b b)
          replace SL := SL.nxb (k3.b b)
          replace own1 := own1.nx k3
          replace own2 := own2.nx k3
          go_wp2_with fail
          (with_reducible refine (encl_r _ _ _ _ _ SL.nl hnl LOKS.out).mono ?_)
          rintro e x4 ⟨v4, rfl, own4, k4⟩
          have SN := Lib.hid (SN.nxb (k4.b b))
          have SL := Lib.hid (SL.nxb (k4.b b))
          replace own1 := own1.nx k4
          replace own2 := own2.nx k4
          replace own3 := own3.nx k4
          have KX := Lib.hid ((((Q.nx k1).nx k2).nx k3).nx k4)
          have KT := Lib.hid (((k1.nx k2).nx k3).nx k4)
          replace T := ((((T.nx k1).nx k2).nx k3).nx k4)
          have z1 := k1.size
          have z2 := k2.size
          have z3 := k3.size
          have hb2 : b < x1.heap.size := by omega
          have hb4 : b < x3.heap.size := by omega
          have LN0 := encNds_len L
          have LL1 := encLks_len M
          obtain ⟨⟨bn, en⟩, hbn⟩ : ∃ r, r = encNds L := ⟨_, rfl⟩
          obtain ⟨⟨bl, el⟩, hbl⟩ : ∃ r, r = encLks M := ⟨_, rfl⟩
          rw [← hbn] at own1 own2 LN0 ⊢
          rw [← hbl] at own3 own4 LL1 ⊢
          clear hbn hbl k1 k2 k3 k4 z1 z2 z3 Q
          obtain ⟨ya1, yn1, yc1, rfl, r1, _, _, _, _, _⟩ := own_run own1 LN0
          obtain ⟨ya2, yn2, yc2, rfl, r2, yl2, o2, m2, f2, nil2⟩ := own_run own2 LN0
          obtain ⟨ya3, yn3, yc3, rfl, r3, _, _, _, _, _⟩ := own_run own3 LL1
          obtain ⟨ya4, yn4, yc4, rfl, r4, yl4, o4, m4, f4, nil4⟩ := own_run own4 LL1
          have s2 := own_slb own2 hb2
          have s4 := own_slb own4 hb4
          have F2 := Lib.hid f2
          have F4 := Lib.hid f4
          have NIL2 := Lib.hid nil2
          have NIL4 := Lib.hid nil4
          clear own1 own2 own3 own4 LN0 LL1 f2 f4 nil2 nil4
          go_wp2_with fail
          (with_reducible refine (decodes_x _ _ _ _ _ s2.sl (by omega) o2 m2 F2.out).mono ?_)
          rintro e x5 ⟨rfl, k5⟩
          replace s2 := s2.nxb (k5.b b)
          replace s4 := s4.nxb (k5.b b)
          replace T := T.nx k5
          clear r1 r2 r3 r4
          go_wp2_with fail
          (with_reducible refine (decodes_x _ _ _ _ _ s4.sl (by omega) o4 m4 F4.out).mono ?_)
          rintro e x6 ⟨rfl, k6⟩
          replace s2 := s2.nxb (k6.b b)
          replace s4 := s4.nxb (k6.b b)
          replace T := T.nx k6
          go_wp2_with fail
          (with_reducible refine (damage_t _ _ _ _ _ T s2.sl yl2 NIL2.out).mono ?_)
          clear T
          rintro e x7 ⟨v7, rfl, ⟨ya7, yn7, yc7, B7, rfl, s7, l7, o7, m7, f7⟩, T, k7⟩
          replace s4 := s4.nxb k7
          have f7 := Lib.hid f7
          go_wp2_with fail
          (with_reducible refine (decodes_x _ _ _ _ _ s7.sl (by omega) o7 m7 f7.out).mono ?_)
          rintro e x8 ⟨rfl, k8⟩
          replace s4 := s4.nxb (k8.b b)
          replace T := T.nx k8
          clear s2 s7
          go_wp2_with fail
          (with_reducible refine (damage_t _ _ _ _ _ T s4.sl yl4 NIL4.out).mono ?_)
          clear T
          rintro e x9 ⟨v9, rfl, ⟨ya9, yn9, yc9, B9, rfl, s9, l9, o9, m9, f9⟩, T, k9⟩
          have f9 := Lib.hid f9
          clear s4
          go_wp2_with fail
          (with_reducible refine (decodes_x _ _ _ _ _ s9.sl (by omega) o9 m9 f9.out).mono ?_)
          rintro e x10 ⟨rfl, k10⟩
          replace T := T.nx k10
          have KK := Lib.hid ((((((k5.b b).nxb (k6.b b)).nxb k7).nxb (k8.b b)).nxb k9).nxb (k10.b b))
          clear s9 k5 k6 k7 k8 k9 k10
          go_wp2_with fail
          exact ⟨⟨⟨k + 1, a, n, c, L, a', n', c', M, by omega, by go_num, rfl, rfl, SN.out.nxb KK.out, hnn, NOKS.out, SL.out.nxb KK.out, hnl, LOKS.out, KX.out.nxb KK.out, T⟩, (KX0.out.nxb (KT.out.b b)).nxb KK.out⟩, by simp [intOf]; omega⟩
        · have d1 : ((k : Int) == 1) = true := by simp; omega
          have d2 : (n2 : Int) ≤ 200 := by omega
          have d3 : ¬ (n3 : Int) ≤ 200 := by omega
          clear hk1 hk
          have hbo := T.lt
          go_wp2_with fail
          (with_reducible refine (encn_p _ _ _ _ _ SN.sl hnn NOKS.out).mono ?_)
          rintro e x1 ⟨v1, rfl, own1, k1⟩
          replace SN := SN.nxb (k1.b b)
          go_wp2_with fail
          (with_reducible refine (encn_r _ _ _ _ _ SN.sl hnn NOKS.out).mono ?_)
          rintro e x2 ⟨v2, rfl, own2, k2⟩
          replace SN := SN.nxb (k2.b b)
          replace SL := (SL.nxb (k1.b b)).nxb (k2.b b)
          replace own1 := own1.nx k2
          go_wp2_with fail
          (with_reducible refine (encl_p _ _ _ _ _ SL.nl hnl LOKS.out).mono ?_)
          rintro e x3 ⟨v3, rfl, own3, k3⟩
          replace SN := SN.nxb (k3.b b)
          replace SL := SL.nxb (k3.b b)
          replace own1 := own1.nx k3
          replace own2 := own2.nx k3
          go_wp2_with fail
          (with_reducible refine (encl_r _ _ _ _ _ SL.nl hnl LOKS.out).mono ?_)
          rintro e x4 ⟨v4, rfl, own4, k4⟩
          have SN := Lib.hid (SN.nxb (k4.b b))
          have SL := Lib.hid (SL.nxb (k4.b b))
          replace own1 := own1.nx k4
          replace own2 := own2.nx k4
          replace own3 := own3.nx k4
          have KX := Lib.hid ((((Q.nx k1).nx k2).nx k3).nx k4)
          have KT := Lib.hid (((k1.nx k2).nx k3).nx k4)
          replace T := ((((T.nx k1).nx k2).nx k3).nx k4)
          have z1 := k1.size
          have z2 := k2.size
          have z3 := k3.size
          have hb2 : b < x1.heap.size := by omega
          have hb4 : b < x3.heap.size := by omega
          have LN0 := encNds_len L
          have LL1 := encLks_len M
          obtain ⟨⟨bn, en⟩, hbn⟩ : ∃ r, r = encNds L := ⟨_, rfl⟩
          obtain ⟨⟨bl, el⟩, hbl⟩ : ∃ r, r = encLks M := ⟨_, rfl⟩
          rw [← hbn] at own1 own2 LN0 ⊢
          rw [← hbl] at own3 own4 LL1 ⊢
          clear hbn hbl k1 k2 k3 k4 z1 z2 z3 Q
          obtain ⟨ya1, yn1, yc1, rfl, r1, _, _, _, _, _⟩ := own_run own1 LN0
          obtain ⟨ya2, yn2, yc2, rfl, r2, yl2, o2, m2, f2, nil2⟩ := own_run own2 LN0
          obtain ⟨ya3, yn3, yc3, rfl, r3, _, _, _, _, _⟩ := own_run own3 LL1
          obtain ⟨ya4, yn4, yc4, rfl, r4, yl4, o4, m4, f4, nil4⟩ := own_run own4 LL1
          have s2 := own_slb own2 hb2
          have s4 := own_slb own4 hb4
          have F2 := Lib.hid f2
          have F4 := Lib.hid f4
          have NIL2 := Lib.hid nil2
          have NIL4 := Lib.hid nil4
          clear own1 own2 own3 own4 LN0 LL1 f2 f4 nil2 nil4
          go_wp2_with fail
          (with_reducible refine (decodes_x _ _ _ _ _ s2.sl (by omega) o2 m2 F2.out).mono ?_)
          rintro e x5 ⟨rfl, k5⟩
          replace s2 := s2.nxb (k5.b b)
          replace s4 := s4.nxb (k5.b b)
          replace T := T.nx k5
          clear r1 r2 r3 r4
          go_wp2_with fail
          (with_reducible refine (decodes_x _ _ _ _ _ s4.sl (by omega) o4 m4 F4.out).mono ?_)
          rintro e x6 ⟨rfl, k6⟩
          replace s2 := s2.nxb (k6.b b)
          replace s4 := s4.nxb (k6.b b)
          replace T := T.nx k6
          go_wp2_with fail
          (with_reducible refine (damage_t _ _ _ _ _ T s2.sl yl2 NIL2.out).mono ?_)
          clear T
          rintro e x7 ⟨v7, rfl, ⟨ya7, yn7, yc7, B7, rfl, s7, l7, o7, m7, f7⟩, T, k7⟩
          replace s4 := s4.nxb k7
          have f7 := Lib.hid f7
          go_wp2_with fail
          (with_reducible refine (decodes_x _ _ _ _ _ s7.sl (by omega) o7 m7 f7.out).mono ?_)
          rintro e x8 ⟨rfl, k8⟩
          replace s4 := s4.nxb (k8.b b)
          replace T := T.nx k8
          clear s2 s7
          go_wp2_with fail
          (with_reducible refine (damage_t _ _ _ _ _ T s4.sl yl4 NIL4.out).mono ?_)
          clear T
          rintro e x9 ⟨v9, rfl, ⟨ya9, yn9, yc9, B9, rfl, s9, l9, o9, m9, f9⟩, T, k9⟩
          have f9 := Lib.hid f9
          clear s4
          go_wp2_with fail
          (with_reducible refine (decodes_x _ _ _ _ _ s9.sl (by omega) o9 m9 f9.out).mono ?_)
          rintro e x10 ⟨rfl, k10⟩
          replace T := T.nx k10
          have KK := Lib.hid ((((((k5.b b).nxb (k6.b b)).nxb k7).nxb (k8.b b)).nxb k9).nxb (k10.b b))
          clear s9 k5 k6 k7 k8 k9 k10
          go_wp2_with fail
          exact ⟨⟨⟨k + 1, a, n, c, L, a', n', c', M, by omega, by go_num, rfl, rfl, SN.out.nxb KK.out, hnn, NOKS.out, SL.out.nxb KK.out, hnl, LOKS.out, KX.out.nxb KK.out, T⟩, (KX0.out.nxb (KT.out.b b)).nxb KK.out⟩, by simp [intOf]; omega⟩
      · obtain rfl : k = 2 := by omega
        have SB := S4.out.nxb KX0.out
        have Q1 := Lib.hid Q.1
        clear SN SL Q hlt hk
        by_cases hb5 : n4 ≤ 5000
        · have hn5 : ¬ (5000 : Int) < (n4 : Int) := by omega
          go_wp2_with fail
          (with_reducible refine (decodes_x _ _ _ _ _ SB.sl (by omega) hc4 hm4 F4.out).mono ?_)
          rintro e y1 ⟨rfl, k1⟩
          clear SB
          go_wp2_with fail
          refine (sane3_x _).mono ?_
          rintro e y2 ⟨rfl, k2⟩
          go_wp2_with fail
          go_ret
          exact ⟨rfl, (Q1.out.nx k1).nx k2⟩
        · have hn5 : (5000 : Int) < (n4 : Int) := by omega
          clear SB
          go_wp2_with fail
          refine (sane3_x _).mono ?_
          rintro e y2 ⟨rfl, k2⟩
          go_wp2_with fail
          go_ret
          exact ⟨rfl, Q1.out.nx k2⟩
  | false =>
    have QW := Lib.hid (KEY.out _ _ ⟨aX, LX.length, cX, LX, rfl, SX, by omega, fun x hx => nok_e (RN.out x hx)⟩ SL QL T)
    obtain ⟨x5, rfl⟩ : ∃ x5 : World, x5 = x4 := ⟨_, rfl⟩
    clear SL QL KEY T SX L1
    obtain ⟨S2, S3, S4⟩ : Slb 3 encN b x5 a2 n2 l2 ∧ NLb b x5 a3 n3 l3 ∧ Slb 1 encB b x5 a4 n4 l4 := ⟨S2, S3, S4⟩
    have S2 := Lib.hid S2
    have S3 := Lib.hid S3
    have S4 := Lib.hid S4
    have E5 : Hid (Exb b x5 x5) := Lib.hid (Exb.refl b x5)
    go_wp2_with fail
    go_loopw [10, 11, 12] (fun vn vl i wr => WnRel b w vn vl i wr ∧ Exb b x5 wr) (fun _ _ i _ => 2 - (intOf i).toNat)
    case atStart => exact ⟨QW.out, E5.out⟩
    case round =>
      clear QW
      obtain ⟨⟨k, a, n, c, L, a', n', c', M, hk, rfl, rfl, rfl, SN, hnn, NOKS, SL, hnl, LOKS, Q, T⟩, kx⟩ := hrel
      obtain ⟨wo, rfl⟩ : ∃ wo : World, wo = wr := ⟨_, rfl⟩
      have NOKS := Lib.hid NOKS
      have LOKS := Lib.hid LOKS
      have KX0 := Lib.hid kx
      clear kx
      by_cases hlt : k < 2
      · have hk2 : k + 1 ≤ 2 := by omega
        have hcase : (k = 1 ∧ n2 ≤ 200 ∧ n3 ≤ 200) ∨ k = 0 ∨ (k = 1 ∧ ¬ n2 ≤ 200) ∨ (k = 1 ∧ n2 ≤ 200 ∧ ¬ n3 ≤ 200) := by omega
        rcases hcase with ⟨hk1, hn2, hn3⟩ | hk1 | ⟨hk1, hn2⟩ | ⟨hk1, hn2, hn3⟩
        · have d1 : ((k : Int) == 1) = true := by simp; omega
          have d2 : (n2 : Int) ≤ 200 := by omega
          have d3 : (n3 : Int) ≤ 200 := by omega
          clear SN SL NOKS LOKS hnn hnl
          have SN := S2.out.nxb KX0.out
          have SL := S3.out.nxb KX0.out
          have NOKS := W2
          have LOKS := W3
          have hnn : n2 ≤ 1000 := by omega
          have hnl : n3 ≤ 1000 := by omega
          clear hk1 hk
          have hbo := T.lt
          go_wp2_with fail
          (with_reducible refine (encn_p _ _ _ _ _ SN.sl hnn NOKS.out).mono ?_)
          rintro e x1 ⟨v1, rfl, own1, k1⟩
          replace SN := SN.nxb (k1.b b)
          go_wp2_with fail
          (with_reducible refine (encn_r _ _ _ _ _ SN.sl hnn NOKS.out).mono ?_)
          rintro e x2 ⟨v2, rfl, own2, k2⟩
          replace SN := SN.nxb (k2.b b)
          replace SL := (SL.nxb (k1.b b)).nxb (k2.b b)
          replace own1 := own1.nx k2
          go_wp2_with fail
          (with_reducible refine (encl_p _ _ _ _ _ SL.nl hnl LOKS.out).mono ?_)
          rintro e x3 ⟨v3, rfl, own3, k3⟩
          replace SN := SN.nxb (k3.b b)
          replace SL := SL.nxb (k3.b b)
          replace own1 := own1.nx k3
          replace own2 := own2.nx k3
          go_wp2_with fail
          (with_reducible refine (encl_r _ _ _ _ _ SL.nl hnl LOKS.out).mono ?_)
          rintro e x4 ⟨v4, rfl, own4, k4⟩
          have SN := Lib.hid (SN.nxb (k4.b b))
          have SL := Lib.hid (SL.nxb (k4.b b))
          replace own1 := own1.nx k4
          replace own2 := own2.nx k4
          replace own3 := own3.nx k4
          have KX := Lib.hid ((((Q.nx k1).nx k2).nx k3).nx k4)
          have KT := Lib.hid (((k1.nx k2).nx k3).nx k4)
          replace T := ((((T.nx k1).nx k2).nx k3).nx k4)
          have z1 := k1.size
          have z2 := k2.size
          have z3 := k3.size
          have hb2 : b < x1.heap.size := by omega
          have hb4 : b < x3.heap.size := by omega
          have LN0 := encNds_len l2
          have LL1 := encLks_len l3
          obtain ⟨⟨bn, en⟩, hbn⟩ : ∃ r, r = encNds l2 := ⟨_, rfl⟩
          obtain ⟨⟨bl, el⟩, hbl⟩ : ∃ r, r = encLks l3 := ⟨_, rfl⟩
          rw [← hbn] at own1 own2 LN0 ⊢
          rw [← hbl] at own3 own4 LL1 ⊢
          clear hbn hbl k1 k2 k3 k4 z1 z2 z3 Q
          obtain ⟨ya1, yn1, yc1, rfl, r1, _, _, _, _, _⟩ := own_run own1 LN0
          obtain ⟨ya2, yn2, yc2, rfl, r2, yl2, o2, m2, f2, nil2⟩ := own_run own2 LN0
          obtain ⟨ya3, yn3, yc3, rfl, r3, _, _, _, _, _⟩ := own_run own3 LL1
          obtain ⟨ya4, yn4, yc4, rfl, r4, yl4, o4, m4, f4, nil4⟩ := own_run own4 LL1
          have s2 := own_slb own2 hb2
          have s4 := own_slb own4 hb4
          have F2 := Lib.hid f2
          have F4 := Lib.hid f4
          have NIL2 := Lib.hid nil2
          have NIL4 := Lib.hid nil4
          clear own1 own2 own3 own4 LN0 LL1 f2 f4 nil2 nil4
          go_wp2_with fail
          (with_reducible refine (decodes_x _ _ _ _ _ s2.sl (by omega) o2 m2 F2.out).mono ?_)
          rintro e x5 ⟨rfl, k5⟩
          replace s2 := s2.nxb (k5.b b)
          replace s4 := s4.nxb (k5.b b)
          replace T := T.nx k5
          clear r1 r2 r3 r4
          go_wp2_with fail
          (with_reducible refine (decodes_x _ _ _ _ _ s4.sl (by omega) o4 m4 F4.out).mono ?_)
          rintro e x6 ⟨rfl, k6⟩
          replace s2 := s2.nxb (k6.b b)
          replace s4 := s4.nxb (k6.b b)
          replace T := T.nx k6
          go_wp2_with fail
          (with_reducible refine (damage_t _ _ _ _ _ T s2.sl yl2 NIL2.out).mono ?_)
          clear T
          rintro e x7 ⟨v7, rfl, ⟨ya7, yn7, yc7, B7, rfl, s7, l7, o7, m7, f7⟩, T, k7⟩
          replace s4 := s4.nxb k7
          have f7 := Lib.hid f7
          go_wp2_with fail
          (with_reducible refine (decodes_x _ _ _ _ _ s7.sl (by omega) o7 m7 f7.out).mono ?_)
          rintro e x8 ⟨rfl, k8⟩
          replace s4 := s4.nxb (k8.b b)
          replace T := T.nx k8
          clear s2 s7
          go_wp2_with fail
          (with_reducible refine (damage_t _ _ _ _ _ T s4.sl yl4 NIL4.out).mono ?_)
          clear T
          rintro e x9 ⟨v9, rfl, ⟨ya9, yn9, yc9, B9, rfl, s9, l9, o9, m9, f9⟩, T, k9⟩
          have f9 := Lib.hid f9
          clear s4
          go_wp2_with fail
          (with_reducible refine (decodes_x _ _ _ _ _ s9.sl (by omega) o9 m9 f9.out).mono ?_)
          rintro e x10 ⟨rfl, k10⟩
          replace T := T.nx k10
          have KK := Lib.hid ((((((k5.b b).nxb (k6.b b)).nxb k7).nxb (k8.b b)).nxb k9).nxb (k10.b b))
          clear s9 k5 k6 k7 k8 k9 k10
          go_wp2_with fail
          exact ⟨⟨⟨k + 1, a2, n2, c2, l2, a3, n3, c3, l3, by omega, by go_num, rfl, rfl, SN.out.nxb KK.out, hnn, NOKS.out, SL.out.nxb KK.out, hnl, LOKS.out, KX.out.nxb KK.out, T⟩, (KX0.out.nxb (KT.out.b b)).nxb KK.out⟩, by simp [intOf]; omega⟩
        · have d1 : ((k : Int) == 1) = false := by simp; omega
          clear hk1 hk
          have hbo := T.lt
          go_wp2_with fail
          (with_reducible refine (encn_p _ _ _ _ _ SN.sl hnn NOKS.out).mono ?_)
          rintro e x1 ⟨v1, rfl, own1, k1⟩
          replace SN := SN.nxb (k1.b b)
          go_wp2_with fail
          (with_reducible refine (encn_r _ _ _ _ _ SN.sl hnn NOKS.out).mono ?_)
          rintro e x2 ⟨v2, rfl, own2, k2⟩
          replace SN := SN.nxb (k2.b b)
          replace SL := (SL.nxb (k1.b b)).nxb (k2.b b)
          replace own1 := own1.nx k2
          go_wp2_with fail
          (with_reducible refine (encl_p _ _ _ _ _ SL.nl hnl LOKS.out).mono ?_)
          rintro e x3 ⟨v3, rfl, own3, k3⟩
          replace SN := SN.nxb (k3.b b)
          replace SL := SL.nxb (k3.b b)
          replace own1 := own1.nx k3
          replace own2 := own2.nx k3
          go_wp2_with fail
          (with_reducible refine (encl_r _ _ _ _ _ SL.nl hnl LOKS.out).mono ?_)
          rintro e x4 ⟨v4, rfl, own4, k4⟩
          have SN := Lib.hid (SN.nxb (k4.b b))
          have SL := Lib.hid (SL.nxb (k4.b b))
          replace own1 := own1.nx k4
          replace own2 := own2.nx k4
          replace own3 := own3.nx k4
          have KX := Lib.hid ((((Q.nx k1).nx k2).nx k3).nx k4)
          have KT := Lib.hid (((k1.nx k2).nx k3).nx k4)
          replace T := ((((T.nx k1).nx k2).nx k3).nx k4)
          have z1 := k1.size
          have z2 := k2.size
          have z3 := k3.size
          have hb2 : b < x1.heap.size := by omega
          have hb4 : b < x3.heap.size := by omega
          have LN0 := encNds_len L
          have LL1 := encLks_len M
          obtain ⟨⟨bn, en⟩, hbn⟩ : ∃ r, r = encNds L := ⟨_, rfl⟩
          obtain ⟨⟨bl, el⟩, hbl⟩ : ∃ r, r = encLks M := ⟨_, rfl⟩
          rw [← hbn] at own1 own2 LN0 ⊢
          rw [← hbl] at own3 own4 LL1 ⊢
          clear hbn hbl k1 k2 k3 k4 z1 z2 z3 Q
          obtain ⟨ya1, yn1, yc1, rfl, r1, _, _, _, _, _⟩ := own_run own1 LN0
          obtain ⟨ya2, yn2, yc2, rfl, r2, yl2, o2, m2, f2, nil2⟩ := own_run own2 LN0
          obtain ⟨ya3, yn3, yc3, rfl, r3, _, _, _, _, _⟩ := own_run own3 LL1
          obtain ⟨ya4, yn4, yc4, rfl, r4, yl4, o4, m4, f4, nil4⟩ := own_run own4 LL1
          have s2 := own_slb own2 hb2
          have s4 := own_slb own4 hb4
          have F2 := Lib.hid f2
          have F4 := Lib.hid f4
          have NIL2 := Lib.hid nil2
          have NIL4 := Lib.hid nil4
          clear own1 own2 own3 own4 LN0 LL1 f2 f4 nil2 nil4
          go_wp2_with fail
          (with_reducible refine (decodes_x _ _ _ _ _ s2.sl (by omega) o2 m2 F2.out).mono ?_)
          rintro e x5 ⟨rfl, k5⟩
          replace s2 := s2.nxb (k5.b b)
          replace s4 := s4.nxb (k5.b b)
          replace T := T.nx k5
          clear r1 r2 r3 r4
          go_wp2_with fail
          (with_reducible refine (decodes_x _ _ _ _ _ s4.sl (by omega) o4 m4 F4.out).mono ?_)
          rintro e x6 ⟨rfl, k6⟩
          replace s2 := s2.nxb (k6.b b)
          replace s4 := s4.nxb (k6.b b)
          replace T := T.nx k6
          go_wp2_with fail
          (with_reducible refine (damage_t _ _ _ _ _ T s2.sl yl2 NIL2.out).mono ?_)
          clear T
          rintro e x7 ⟨v7, rfl, ⟨ya7, yn7, yc7, B7, rfl, s7, l7, o7, m7, f7⟩, T, k7⟩
          replace s4 := s4.nxb k7
          have f7 := Lib.hid f7
          go_wp2_with fail
          (with_reducible refine (decodes_x _ _ _ _ _ s7.sl (by omega) o7 m7 f7.out).mono ?_)
          rintro e x8 ⟨rfl, k8⟩
          replace s4 := s4.nxb (k8.b b)
          replace T := T.nx k8
          clear s2 s7
          go_wp2_with fail
          (with_reducible refine (damage_t _ _ _ _ _ T s4.sl yl4 NIL4.out).mono ?_)
          clear T
          rintro e x9 ⟨v9, rfl, ⟨ya9, yn9, yc9, B9, rfl, s9, l9, o9, m9, f9⟩, T, k9⟩
          have f9 := Lib.hid f9
          clear s4
          go_wp2_with fail
          (with_reducible refine (decodes_x _ _ _ _ _ s9.sl (by omega) o9 m9 f9.out).mono ?_)
          rintro e x10 ⟨rfl, k10⟩
          replace T := T.nx k10
          have KK := Lib.hid ((((((k5.b b).nxb (k6.b b)).nxb k7).nxb (k8.b b)).nxb k9).nxb (k10.b b))
          clear s9 k5 k6 k7 k8 k9 k10
          go_wp2_with fail
          exact ⟨⟨⟨k + 1, a, n, c, L, a', n', c', M, by omega, by go_num, rfl, rfl, SN.out.nxb KK.out, hnn, NOKS.out, SL.out.nxb KK.out, hnl, LOKS.out, KX.out.nxb KK.out, T⟩, (KX0.out.nxb (KT.out.b b)).nxb KK.out⟩, by simp [intOf]; omega⟩
        · have d1 : ((k : Int) == 1) = true := by simp; omega
          have d2 : ¬ (n2 : Int) ≤ 200 := by omega
          clear hk1 hk
          have hbo := T.lt
          go_wp2_with fail
          (with_reducible refine (encn_p _ _ _ _ _ SN.sl hnn NOKS.out).mono ?_)
          rintro e x1 ⟨v1, rfl, own1, k1⟩
          replace SN := SN.nxb (k1.b b)
          go_wp2_with fail
          (with_reducible refine (encn_r _ _ _ _ _ SN.sl hnn NOKS.out).mono ?_)
          rintro e x2 ⟨v2, rfl, own2, k2⟩
          replace SN := SN.nxb (k2.b b)
          replace SL := (SL.nxb (k1.b b)).nxb (k2.b b)
          replace own1 := own1.nx k2
          go_wp2_with fail
          (with_reducible refine (encl_p _ _ _ _ _ SL.nl hnl LOKS.out).mono ?_)
          rintro e x3 ⟨v3, rfl, own3, k3⟩
          replace SN := SN.nxb (k3.b b)
          replace SL := SL.nxb (k3.b b)
          replace own1 := own1.nx k3
          replace own2 := own2.nx k3
          go_wp2_with fail
          (with_reducible refine (encl_r _ _ _ _ _ SL.nl hnl LOKS.out).mono ?_)
          rintro e x4 ⟨v4, rfl, own4, k4⟩
          have SN := Lib.hid (SN.nxb (k4.b b))
          have SL := Lib.hid (SL.nxb (k4.b b))
          replace own1 := own1.nx k4
          replace own2 := own2.nx k4
          replace own3 := own3.nx k4
          have KX := Lib.hid ((((Q.nx k1).nx k2).nx k3).nx k4)
          have KT := Lib.hid (((k1.nx k2).nx k3).nx k4)
          replace T := ((((T.nx k1).nx k2).nx k3).nx k4)
          have z1 := k1.size
          have z2 := k2.size
          have z3 := k3.size
          have hb2 : b < x1.heap.size := by omega
          have hb4 : b < x3.heap.size := by omega
          have LN0 := encNds_len L
          have LL1 := encLks_len M
          obtain ⟨⟨bn, en⟩, hbn⟩ : ∃ r, r = encNds L := ⟨_, rfl⟩
          obtain ⟨⟨bl, el⟩, hbl⟩ : ∃ r, r = encLks M := ⟨_, rfl⟩
          rw [← hbn] at own1 own2 LN0 ⊢
          rw [← hbl] at own3 own4 LL1 ⊢
          clear hbn hbl k1 k2 k3 k4 z1 z2 z3 Q
          obtain ⟨ya1, yn1, yc1, rfl, r1, _, _, _, _, _⟩ := own_run own1 LN0
          obtain ⟨ya2, yn2, yc2, rfl, r2, yl2, o2, m2, f2, nil2⟩ := own_run own2 LN0
          obtain ⟨ya3, yn3, yc3, rfl, r3, _, _, _, _, _⟩ := own_run own3 LL1
          obtain ⟨ya4, yn4, yc4, rfl, r4, yl4, o4, m4, f4, nil4⟩ := own_run own4 LL1
          have s2 := own_slb own2 hb2
          have s4 := own_slb own4 hb4
          have F2 := Lib.hid f2
          have F4 := Lib.hid f4
          have NIL2 := Lib.hid nil2
          have NIL4 := Lib.hid nil4
          clear own1 own2 own3 own4 LN0 LL1 f2 f4 nil2 nil4
          go_wp2_with fail
          (with_reducible refine (decodes_x _ _ _ _ _ s2.sl (by omega) o2 m2 F2.out).mono ?_)
          rintro e x5 ⟨rfl, k5⟩
          replace s2 := s2.nxb (k5.b b)
          replace s4 := s4.nxb (k5.b b)
          replace T := T.nx k5
          clear r1 r2 r3 r4
          go_wp2_with fail
          (with_reducible refine (decodes_x _ _ _ _ _ s4.sl (by omega) o4 m4 F4.out).mono ?_)
          rintro e x6 ⟨rfl, k6⟩
          replace s2 := s2.nxb (k6.b b)
          replace s4 := s4.nxb (k6.b b)
          replace T := T.nx k6
          go_wp2_with fail
          (with_reducible refine (damage_t _ _ _ _ _ T s2.sl yl2 NIL2.out).mono ?_)
          clear T
          rintro e x7 ⟨v7, rfl, ⟨ya7, yn7, yc7, B7, rfl, s7, l7, o7, m7, f7⟩, T, k7⟩
          replace s4 := s4.nxb k7
          have f7 := Lib.hid f7
          go_wp2_with fail
          (with_reducible refine (decodes_x _ _ _ _ _ s7.sl (by omega) o7 m7 f7.out).mono ?_)
          rintro e x8 ⟨rfl, k8⟩
          replace s4 := s4.nxb (k8.b b)
          replace T := T.nx k8
          clear s2 s7
          go_wp2_with fail
          (with_reducible refine (damage_t _ _ _ _ _ T s4.sl yl4 NIL4.out).mono ?_)
          clear T
          rintro e x9 ⟨v9, rfl, ⟨ya9, yn9, yc9, B9, rfl, s9, l9, o9, m9, f9⟩, T, k9⟩
          have f9 := Lib.hid f9
          clear s4
          go_wp2_with fail
          (with_reducible refine (decodes_x _ _ _ _ _ s9.sl (by omega) o9 m9 f9.out).mono ?_)
          rintro e x10 ⟨rfl, k10⟩
          replace T := T.nx k10
          have KK := Lib.hid ((((((k5.b b).nxb (k6.b b)).nxb k7).nxb (k8.b b)).nxb k9).nxb (k10.b b))
          clear s9 k5 k6 k7 k8 k9 k10
          go_wp2_with fail
          exact ⟨⟨⟨k + 1, a, n, c, L, a', n', c', M, by omega, by go_num, rfl, rfl, SN.out.nxb KK.out, hnn, NOKS.out, SL.out.nxb KK.out, hnl, LOKS.out, KX.out.nxb KK.out, T⟩, (KX0.out.nxb (KT.out.b b)).nxb KK.out⟩, by simp [intOf]; omega⟩
        · have d1 : ((k : Int) == 1) = true := by simp; omega
          have d2 : (n2 : Int) ≤ 200 := by omega
          have d3 : ¬ (n3 : Int) ≤ 200 := by omega
          clear hk1 hk
          have hbo := T.lt
          go_wp2_with fail
          (with_reducible refine (encn_p _ _ _ _ _ SN.sl hnn NOKS.out).mono ?_)
          rintro e x1 ⟨v1, rfl, own1, k1⟩
          replace SN := SN.nxb (k1.b b)
          go_wp2_with fail
          (with_reducible refine (encn_r _ _ _ _ _ SN.sl hnn NOKS.out).mono ?_)
          rintro e x2 ⟨v2, rfl, own2, k2⟩
          replace SN := SN.nxb (k2.b b)
          replace SL := (SL.nxb (k1.b b)).nxb (k2.b b)
          replace own1 := own1.nx k2
          go_wp2_with fail
          (with_reducible refine (encl_p _ _ _ _ _ SL.nl hnl LOKS.out).mono ?_)
          rintro e x3 ⟨v3, rfl, own3, k3⟩
          replace SN := SN.nxb (k3.b b)
          replace SL := SL.nxb (k3.b b)
          replace own1 := own1.nx k3
          replace own2 := own2.nx k3
          go_wp2_with fail
          (with_reducible refine (encl_r _ _ _ _ _ SL.nl hnl LOKS.out).mono ?_)
          rintro e x4 ⟨v4, rfl, own4, k4⟩
          have SN := Lib.hid (SN.nxb (k4.b b))
          have SL := Lib.hid (SL.nxb (k4.b b))
          replace own1 := own1.nx k4
          replace own2 := own2.nx k4
          replace own3 := own3.nx k4
          have KX := Lib.hid ((((Q.nx k1).nx k2).nx k3).nx k4)
          have KT := Lib.hid (((k1.nx k2).nx k3).nx k4)
          replace T := ((((T.nx k1).nx k2).nx k3).nx k4)
          have z1 := k1.size
          have z2 := k2.size
          have z3 := k3.size
          have hb2 : b < x1.heap.size := by omega
          have hb4 : b < x3.heap.size := by omega
          have LN0 := encNds_len L
          have LL1 := encLks_len M
          obtain ⟨⟨bn, en⟩, hbn⟩ : ∃ r, r = encNds L := ⟨_, rfl⟩
          obtain ⟨⟨bl, el⟩, hbl⟩ : ∃ r, r = encLks M := ⟨_, rfl⟩
          rw [← hbn] at own1 own2 LN0 ⊢
          rw [← hbl] at own3 own4 LL1 ⊢
          clear hbn hbl k1 k2 k3 k4 z1 z2 z3 Q
          obtain ⟨ya1, yn1, yc1, rfl, r1, _, _, _, _, _⟩ := own_run own1 LN0
          obtain ⟨ya2, yn2, yc2, rfl, r2, yl2, o2, m2, f2, nil2⟩ := own_run own2 LN0
          obtain ⟨ya3, yn3, yc3, rfl, r3, _, _, _, _, _⟩ := own_run own3 LL1
          obtain ⟨ya4, yn4, yc4, rfl, r4, yl4, o4, m4, f4, nil4⟩ := own_run own4 LL1
          have s2 := own_slb own2 hb2
          have s4 := own_slb own4 hb4
          have F2 := Lib.hid f2
          have F4 := Lib.hid f4
          have NIL2 := Lib.hid nil2
          have NIL4 := Lib.hid nil4
          clear own1 own2 own3 own4 LN0 LL1 f2 f4 nil2 nil4
          go_wp2_with fail
          (with_reducible refine (decodes_x _ _ _ _ _ s2.sl (by omega) o2 m2 F2.out).mono ?_)
          rintro e x5 ⟨rfl, k5⟩
          replace s2 := s2.nxb (k5.b b)
          replace s4 := s4.nxb (k5.b b)
          replace T := T.nx k5
          clear r1 r2 r3 r4
          go_wp2_with fail
          (with_reducible refine (decodes_x _ _ _ _ _ s4.sl (by omega) o4 m4 F4.out).mono ?_)
          rintro e x6 ⟨rfl, k6⟩
          replace s2 := s2.nxb (k6.b b)
          replace s4 := s4.nxb (k6.b b)
          replace T := T.nx k6
          go_wp2_with fail
          (with_reducible refine (damage_t _ _ _ _ _ T s2.sl yl2 NIL2.out).mono ?_)
          clear T
          rintro e x7 ⟨v7, rfl, ⟨ya7, yn7, yc7, B7, rfl, s7, l7, o7, m7, f7⟩, T, k7⟩
          replace s4 := s4.nxb k7
          have f7 := Lib.hid f7
          go_wp2_with fail
          (with_reducible refine (decodes_x _ _ _ _ _ s7.sl (by omega) o7 m7 f7.out).mono ?_)
          rintro e x8 ⟨rfl, k8⟩
          replace s4 := s4.nxb (k8.b b)
          replace T := T.nx k8
          clear s2 s7
          go_wp2_with fail
          (with_reducible refine (damage_t _ _ _ _ _ T s4.sl yl4 NIL4.out).mono ?_)
          clear T
          rintro e x9 ⟨v9, rfl, ⟨ya9, yn9, yc9, B9, rfl, s9, l9, o9, m9, f9⟩, T, k9⟩
          have f9 := Lib.hid f9
          clear s4
          go_wp2_with fail
          (with_reducible refine (decodes_x _ _ _ _ _ s9.sl (by omega) o9 m9 f9.out).mono ?_)
          rintro e x10 ⟨rfl, k10⟩
          replace T := T.nx k10
          have KK := Lib.hid ((((((k5.b b).nxb (k6.b b)).nxb k7).nxb (k8.b b)).nxb k9).nxb (k10.b b))
          clear s9 k5 k6 k7 k8 k9 k10
          go_wp2_with fail
          exact ⟨⟨⟨k + 1, a, n, c, L, a', n', c', M, by omega, by go_num, rfl, rfl, SN.out.nxb KK.out, hnn, NOKS.out, SL.out.nxb KK.out, hnl, LOKS.out, KX.out.nxb KK.out, T⟩, (KX0.out.nxb (KT.out.b b)).nxb KK.out⟩, by simp [intOf]; omega⟩
      · obtain rfl : k = 2 := by omega
        have SB := S4.out.nxb KX0.out
        have Q1 := Lib.hid Q.1
        clear SN SL Q hlt hk
        by_cases hb5 : n4 ≤ 5000
        · have hn5 : ¬ (5000 : Int) < (n4 : Int) := by omega
          go_wp2_with fail
          (with_reducible refine (decodes_x _ _ _ _ _ SB.sl (by omega) hc4 hm4 F4.out).mono ?_)
          rintro e y1 ⟨rfl, k1⟩
          clear SB
          go_wp2_with fail
          refine (sane3_x _).mono ?_
          rintro e y2 ⟨rfl, k2⟩
          go_wp2_with fail
          go_ret
          exact ⟨rfl, (Q1.out.nx k1).nx k2⟩
        · have hn5 : (5000 : Int) < (n4 : Int) := by omega
          clear SB
          go_wp2_with fail
          refine (sane3_x _).mono ?_
          rintro e y2 ⟨rfl, k2⟩
          go_wp2_with fail
          go_ret
          exact ⟨rfl, Q1.out.nx k2⟩
end Go.Proofs.YtjaemckdfoaopaaDoor

/- What the laid letters give the walks. -/
namespace Go.Proofs.YtjaemckdfoaopaaDoor
open Go.RowKit

theorem Tryd.gLet : Tryd.prog.globalNamed "skipgraph/skipgraphworld.letters" = some 0 := by kernel_rfl
theorem Tryd.tLet : (Tryd.prog.globals[0]?).map (·.type) = some 61 := by kernel_rfl
theorem Tryd.cells6 : Tryd.prog.cellsOf 61 = 6 := by kernel_rfl
theorem Tryd.cellsStr : Tryd.prog.cellsOf 9 = 1 := by kernel_rfl
def letL : List (List UInt8) := [[97], [98], [99], [0], [255], [109]]

/-- AN ARRAY OF STRINGS THAT READS AS A LIST OF STRINGS HOLDS THEM, CELL FOR CELL. -/
theorem cells_of_strs {H : Type} {enc : TypeId × Value → H} {P : Program} {w : World} {base : Nat} {sp : Nat → Bool} {held : Bool} {fuel : Nat} {t e : TypeId} {n : Nat} {cs : List Value} {zs : List (List UInt8)} {p : List MemPlace}
    (ht : P.underlying t = some (.array n e)) (he : P.underlying e = some .string) (hce : P.cellsOf e = 1) (hct : P.cellsOf t = n)
    (h : DataW.trod enc P w base sp held fuel t cs = some (.agg (zs.map fun z => .lit (.string z)), p)) : ∀ (i : Nat) (z : List UInt8), zs[i]? = some z → ∃ s : ByteArray, s.data.toList = z ∧ cs[i]? = some (.string s) := by
  cases fuel with
  | zero => simp [DataW.trod] at h
  | succ fuel =>
    simp only [DataW.trod, ht, hce, hct, Nat.mul_one] at h
    split at h
    · rename_i hl
      obtain ⟨xs, hm, hx⟩ := Option.map_eq_some_iff.1 h
      have hxs : xs.map (·.1) = zs.map fun z => (DataW.lit (.string z) : DataW H) := by
        have := congrArg Prod.fst hx
        simpa using this
      have hxl : xs.length = n := by simpa using Lib.mapM_length hm
      have hzl : zs.length = n := by
        have := congrArg List.length hxs
        simp at this
        omega
      intro i z hz
      have hi : i < n := by have := (List.getElem?_eq_some_iff.1 hz).1; omega
      obtain ⟨b, hb, hf⟩ := Lib.mapM_at hm i i (by simp [hi])
      obtain ⟨s, hc, rfl, _⟩ := DataW.trod_string he hf
      have h1 : cs[i]? = some (.string s) := by
        have := congrArg (·[0]?) hc
        simpa [List.getElem?_take, List.getElem?_drop] using this
      have h2 : (xs.map (·.1))[i]? = some (DataW.lit (.string s.data.toList) : DataW H) := by simp [hb]
      rw [hxs] at h2
      simp only [List.getElem?_map, Option.map_eq_some_iff, DataW.lit.injEq, Lit.string.injEq] at h2
      obtain ⟨z', hz', hzz⟩ := h2
      have : z = z' := Option.some.inj (hz.symm.trans hz')
      exact ⟨s, by rw [this, hzz], h1⟩
    · cases h

theorem laid_let {H : Type} : (Rows.laid_skipgraph_skipgraphworld_letters : DataW H) = .agg (letL.map fun z => .lit (.string z)) := rfl
theorem letG_head {rest : List (String × DataW Unit)} {W : World} (h : laidMet Tryd.prog (("skipgraph/skipgraphworld.letters", .agg (letL.map fun z => .lit (.string z))) :: rest) W) : LetG W := by
  obtain ⟨ps, ⟨g', t', cs, fuel, p, q, hg', ht', hvar, hd, _, _⟩, _⟩ := h
  obtain rfl := Option.some.inj (Tryd.gLet.symm.trans hg')
  obtain rfl := Option.some.inj (Tryd.tLet.symm.trans ht')
  intro j hj
  obtain ⟨z, hz⟩ : ∃ z, letL[j]? = some z := ⟨letL[j]'(by simp [letL]; omega), by simp⟩
  obtain ⟨s, h1, h2⟩ := cells_of_strs Tryd.underlying61 Tryd.underlying9 Tryd.cellsStr Tryd.cells6 hd j z hz
  refine ⟨s, ?_, ?_⟩
  · have hl : z.length = 1 := by
      have : ∀ j, j < 6 → (letL[j]?.getD []).length = 1 := by decide
      have := this j hj
      rw [hz] at this
      exact this
    have : s.data.toList.length = 1 := by rw [h1]; exact hl
    rw [Array.length_toList] at this
    exact this
  · rw [World.var?_cell Tryd.gLet hvar j]
    simpa using h2
theorem letG_of {rest : List (String × DataW Unit)} {W : World} (h : laidMetH Tryd.prog (("skipgraph/skipgraphworld.letters", Rows.laid_skipgraph_skipgraphworld_letters) :: rest) W)
    (hp : ((("skipgraph/skipgraphworld.letters", Rows.laid_skipgraph_skipgraphworld_letters) :: rest).all fun x => x.2.handleName?.isNone) = true) : LetG W := by
  rw [MakeChecks.laidMetH_plain _ _ _ hp, laid_let] at h
  exact letG_head h
end Go.Proofs.YtjaemckdfoaopaaDoor

/- How the arguments of a statement are read: slices as lists. -/
namespace Go.Proofs.YtjaemckdfoaopaaDoor
open Go.ChangeShapes Go.WideShapes Go.ChangeAt Go.RowKit Go.Deep Go.Joins

theorem own : ownKnob Tryd.prog.godebug = none := by kernel_rfl
theorem laidOut : laidOutB Tryd.prog = true := by kernel_rfl

section
variable {H : Type} {enc : TypeId × Value → H} {P : Program} {w : World} {base : Nat} {spare : Nat → Bool} {held : Bool}

theorem addr_lit {a : Addr} {v : Value} {w : World} (h : w.cell? (a.add 0) = some v) : a = ⟨a.block, a.off, none⟩ := by
  obtain ⟨b, o, s⟩ := a
  have : s = none := by simpa [Addr.add] using World.cell?_spot h
  subst this; rfl

/-- a slice of ints that came in -/
theorem rd_ints {t e : TypeId} {k : IntKind} {v : Value} {d : DataW H} {p : List MemPlace} {r : Reach} {b0 : Nat} (ht : P.underlying t = some (.slice e)) (he : P.underlying e = some (.int k)) (hC : P.cellsOf e = 1)
    (hv : Value.okWide P w r b0 t v) (h : DataW.Trod enc P w base spare held t v d p) :
    ∃ a n c l, v = .slice a n c ∧ Rd 1 (fun x : Int => [Value.int k x]) (· < w.heap.size) w a n l ∧ n ≤ c ∧ c ≤ maxLen ∧ (∀ x ∈ l, (Lit.int k x).wf = true) ∧ (a = none → c = 0) := by
  obtain ⟨a0, len0, cap0, rfl⟩ := okWide_slice ht hv
  obtain ⟨fuel, hf⟩ := h
  rcases open_ints ht he hC hf with ⟨hcs, _⟩ | ⟨x, l, c, zs, hcs, _, hl, hm, hz, _, hcell, hwz⟩
  · simp [Value.cells] at hcs
    obtain ⟨rfl, rfl, rfl⟩ := hcs
    exact ⟨none, 0, 0, [], rfl, Rd.nil _ _ _ _ _, by omega, by unfold maxLen; omega, by simp, fun _ => rfl⟩
  · simp [Value.cells] at hcs
    obtain ⟨rfl, rfl, rfl⟩ := hcs
    have hz' : len0 ≤ zs.length := by rw [hz]; split <;> omega
    refine ⟨_, len0, cap0, zs.take len0, rfl, ⟨by simp; omega, ?_⟩, hl, hm, fun y hy => hwz y (List.mem_of_mem_take hy), fun h => by cases h⟩
    rcases Nat.eq_zero_or_pos len0 with h0 | h0
    · exact .inl h0
    · have hx := addr_lit (hcell 0 (by omega))
      refine .inr ⟨x.block, x.off, by rw [← hx], ?_, fun j y hj c u hu => ?_⟩
      · have := World.block_lt_of_cell? w _ (hcell 0 (by omega))
        rw [hx] at this
        simpa [Addr.add] using this
      · have hj' : j < len0 := by
          have := (List.getElem?_eq_some_iff.1 hj).1
          simp at this; omega
        have hy : zs.getD j 0 = y := by
          rw [List.getElem?_take, if_pos hj'] at hj
          simp [List.getD, hj]
        have hc := hcell j (by omega)
        rw [hx, Addr.add_lit, hy] at hc
        rcases c with _ | c
        · simp at hu; subst hu; simpa using hc
        · simp at hu

theorem open_slice_fields {t e : TypeId} {fs : Array Field} {fuel : Nat} {cs : List Value} {x : DataW H × List MemPlace} (ht : P.underlying t = some (.slice e)) (he : P.underlying e = some (.struct fs))
    (hone : oneCellFields P fs = true) (hC : P.cellsOf e = fs.size) (h : DataW.trod enc P w base spare held fuel t cs = some x) :
    (cs = [.slice none 0 0] ∧ x = (.nil, [])) ∨
    ∃ (a : Addr) (len cap m : Nat), cs = [.slice (some a) len cap] ∧ len ≤ cap ∧ cap ≤ maxLen ∧ m = (if spare a.block then cap else len) ∧
      ∀ i, i < m → ∃ (n : Nat), ∀ (j : Nat) (f : Field), fs[j]? = some f → ∃ (v : Value) (y : DataW H × List MemPlace), w.cell? (a.add (i * fs.size + j)) = some v ∧ DataW.trod enc P w base spare held n f.type [v] = some y := by
  rcases open_slice ht h with h0 | ⟨a, len, cap, m, n, D, Pl, hcs, hb, hl, hm, hmm, hx, hi⟩
  · exact .inl h0
  · refine .inr ⟨a, len, cap, m, hcs, hl, hm, hmm, fun i him => ?_⟩
    obtain ⟨cs', hc, ht'⟩ := hi i him
    rw [hC] at hc
    obtain ⟨ys, n', hn', hy, hlen, hyl, hf⟩ := DataW.trod_struct he ht'
    obtain ⟨_, hcl, hat⟩ := World.cells?_some hc
    refine ⟨n', fun j f hj => ?_⟩
    obtain ⟨ho, hk⟩ := hone_of hone j f hj
    have hjl : j < fs.size := (Array.getElem?_eq_some_iff.1 hj).1
    have hcell := hat j hjl
    have hv : cs'[j]? = some (cs'[j]'(by omega)) := List.getElem?_eq_getElem (by omega)
    have h1 := hf j f hj
    rw [ho, hk] at h1
    have hone' : (cs'.drop j).take 1 = [cs'[j]'(by omega)] := by
      rw [List.drop_eq_getElem_cons (by omega)]
      rfl
    rw [hone'] at h1
    have hys : ys[j]? = some (ys[j]'(by omega)) := List.getElem?_eq_getElem (by omega)
    refine ⟨_, _, ?_, h1.trans hys⟩
    rw [← Go.Deep.add_add, hcell, hv]

/-- a list that is given one element at a time -/
theorem list_of {α : Type} {p : Nat → α → Prop} : ∀ n, (∀ i, i < n → ∃ y, p i y) → ∃ l : List α, l.length = n ∧ ∀ (i : Nat) y, l[i]? = some y → p i y
  | 0, _ => ⟨[], rfl, by simp⟩
  | n + 1, h => by
    obtain ⟨l, hl, hp⟩ := list_of n (fun i hi => h i (by omega))
    obtain ⟨y, hy⟩ := h n (by omega)
    refine ⟨l ++ [y], by simp [hl], fun i z hz => ?_⟩
    rcases Nat.lt_or_ge i n with hi | hi
    · exact hp i z (by rwa [List.getElem?_append_left (by omega)] at hz)
    · rw [List.getElem?_append_right (by omega)] at hz
      have : i = n := by
        rcases Nat.eq_zero_or_pos (i - l.length) with h0 | h0
        · omega
        · rw [List.getElem?_eq_none (by simp; omega)] at hz; cases hz
      subst this
      simp [hl] at hz
      subst hz; exact hy

/-- a slice of structs that came in, each element read by 'rel' -/
theorem rd_structs {α : Type} {k : Nat} {encS : α → List Value} {t e : TypeId} {fs : Array Field} {v : Value} {d : DataW H} {p : List MemPlace} {r : Reach} {b0 : Nat} (ht : P.underlying t = some (.slice e)) (he : P.underlying e = some (.struct fs))
    (hone : oneCellFields P fs = true) (hC : P.cellsOf e = fs.size) (hk : fs.size = k) (hk0 : 0 < k)
    (hv : Value.okWide P w r b0 t v) (h : DataW.Trod enc P w base spare held t v d p)
    (hel : ∀ (n : Nat) (cell : Nat → Option Value), (∀ (j : Nat) (f : Field), fs[j]? = some f → ∃ (v : Value) (y : DataW H × List MemPlace), cell j = some v ∧ DataW.trod enc P w base spare held n f.type [v] = some y) → ∃ y : α, ∀ c u, (encS y)[c]? = some u → cell c = some u) :
    ∃ a n c l, v = .slice a n c ∧ Rd k encS (· < w.heap.size) w a n l ∧ n ≤ c ∧ c ≤ maxLen ∧ (a = none → c = 0) := by
  subst hk
  obtain ⟨a0, len0, cap0, rfl⟩ := okWide_slice ht hv
  obtain ⟨fuel, hf⟩ := h
  rcases open_slice_fields ht he hone hC hf with ⟨hcs, _⟩ | ⟨x, len, cap, m, hcs, hl, hm, hmm, hi⟩
  · simp [Value.cells] at hcs
    obtain ⟨rfl, rfl, rfl⟩ := hcs
    exact ⟨none, 0, 0, [], rfl, Rd.nil _ _ _ _ _, by omega, by unfold maxLen; omega, fun _ => rfl⟩
  · simp [Value.cells] at hcs
    obtain ⟨rfl, rfl, rfl⟩ := hcs
    have hlm : len0 ≤ m := by rw [hmm]; split <;> omega
    obtain ⟨l, hll, hlp⟩ := list_of (p := fun i (y : α) => ∀ c u, (encS y)[c]? = some u → w.cell? (x.add (i * fs.size + c)) = some u) len0 (fun i hi' => by
      obtain ⟨n, hn⟩ := hi i (by omega)
      exact hel n (fun j => w.cell? (x.add (i * fs.size + j))) hn)
    refine ⟨_, len0, cap0, l, rfl, ⟨hll, ?_⟩, hl, hm, fun h => by cases h⟩
    rcases Nat.eq_zero_or_pos len0 with h0 | h0
    · exact .inl h0
    · obtain ⟨n, hn⟩ := hi 0 (by omega)
      obtain ⟨v0, _, hv0, _⟩ := hn 0 (fs[0]) (by simp)
      have hv0 : w.cell? (x.add 0) = some v0 := by simpa using hv0
      have hx := addr_lit hv0
      refine .inr ⟨x.block, x.off, by rw [← hx], ?_, fun j y hj c u hu => ?_⟩
      · have := World.block_lt_of_cell? w _ hv0
        rw [hx] at this
        simpa [Addr.add] using this
      · have := hlp j y hj c u hu
        rw [hx, Addr.add_lit] at this
        simpa [Nat.add_assoc] using this
end
end Go.Proofs.YtjaemckdfoaopaaDoor

/- How bytes that came in are read. -/
namespace Go.Proofs.YtjaemckdfoaopaaDoor
open Go.ChangeShapes Go.WideShapes Go.ChangeAt Go.RowKit Go.Deep Go.Joins
theorem bytes_of {S : Nat → Prop} {w : World} {a : Option Addr} {n : Nat} {l : List Int} (h : Rd 1 (fun x : Int => [Value.int .u8 x]) S w a n l) (wf : ∀ x ∈ l, (Lit.int .u8 x).wf = true) :
    ∃ lb : List UInt8, Rd 1 encB S w a n lb := by
  refine ⟨l.map (fun x => byt x.toNat), by rw [List.length_map]; exact h.1, ?_⟩
  rcases h.2 with h2 | ⟨x, o, e1, e2, e3⟩
  · exact .inl h2
  · refine .inr ⟨x, o, e1, e2, fun j y hj c u hu => ?_⟩
    rw [List.getElem?_map] at hj
    cases hl : l[j]? with
    | none => rw [hl] at hj; cases hj
    | some z =>
      rw [hl] at hj
      simp only [Option.map_some, Option.some.injEq] at hj
      subst hj
      have hz := bounds_u8 (wf z (List.mem_of_getElem? hl))
      refine e3 j z hl c u ?_
      rcases c with _ | c
      · simp only [encB, byt_toNat] at hu
        rw [← hu]
        simp
        omega
      · simp [encB] at hu
end Go.Proofs.YtjaemckdfoaopaaDoor

/- Lists of links among the arguments. -/
namespace Go.Proofs.YtjaemckdfoaopaaDoor
open Go.ChangeShapes Go.WideShapes Go.ChangeAt Go.RowKit Go.Deep Go.Joins

section
variable {H : Type} {enc : TypeId × Value → H} {P : Program} {w : World} {base : Nat} {spare : Nat → Bool} {held : Bool}
/-- a slice of structs in a cell -/
theorem rd_structs_in {α : Type} {k n0 : Nat} {encS : α → List Value} {t e : TypeId} {fs : Array Field} {v : Value} {y0 : DataW H × List MemPlace} (ht : P.underlying t = some (.slice e)) (he : P.underlying e = some (.struct fs))
    (hone : oneCellFields P fs = true) (hC : P.cellsOf e = fs.size) (hk : fs.size = k) (hk0 : 0 < k) (hf : DataW.trod enc P w base spare held n0 t [v] = some y0)
    (hel : ∀ (n : Nat) (cell : Nat → Option Value), (∀ (j : Nat) (f : Field), fs[j]? = some f → ∃ (v : Value) (y : DataW H × List MemPlace), cell j = some v ∧ DataW.trod enc P w base spare held n f.type [v] = some y) → ∃ y : α, ∀ c u, (encS y)[c]? = some u → cell c = some u) :
    ∃ a n c l, v = .slice a n c ∧ Rd k encS (· < w.heap.size) w a n l ∧ n ≤ c ∧ c ≤ maxLen := by
  subst hk
  rcases open_slice_fields ht he hone hC hf with ⟨hcs, _⟩ | ⟨x, len, cap, m, hcs, hl, hm, hmm, hi⟩
  · simp at hcs
    subst hcs
    exact ⟨none, 0, 0, [], rfl, Rd.nil _ _ _ _ _, by omega, by unfold maxLen; omega⟩
  · simp at hcs
    subst hcs
    have hlm : len ≤ m := by rw [hmm]; split <;> omega
    obtain ⟨l, hll, hlp⟩ := list_of (p := fun i (y : α) => ∀ c u, (encS y)[c]? = some u → w.cell? (x.add (i * fs.size + c)) = some u) len (fun i hi' => by
      obtain ⟨n, hn⟩ := hi i (by omega)
      exact hel n (fun j => w.cell? (x.add (i * fs.size + j))) hn)
    refine ⟨_, len, cap, l, rfl, ⟨hll, ?_⟩, hl, hm⟩
    rcases Nat.eq_zero_or_pos len with h0 | h0
    · exact .inl h0
    · obtain ⟨n, hn⟩ := hi 0 (by omega)
      obtain ⟨v0, _, hv0, _⟩ := hn 0 (fs[0]) (by simp)
      have hv0 : w.cell? (x.add 0) = some v0 := by simpa using hv0
      have hx := addr_lit hv0
      refine .inr ⟨x.block, x.off, by rw [← hx], ?_, fun j y hj c u hu => ?_⟩
      · have := World.block_lt_of_cell? w _ hv0
        rw [hx] at this
        simpa [Addr.add] using this
      · have := hlp j y hj c u hu
        rw [hx, Addr.add_lit] at this
        simpa [Nat.add_assoc] using this
end
abbrev Lv64 := { y : Int × Int // I64 y.1 ∧ I64 y.2 }
def encS64 (y : Lv64) : List Value := encS y.1
def LdIn (w : World) := { q : (Int × Hdr) × List (Int × Int) // Sl 2 encS w q.1.2.1 q.1.2.2.1 q.2 ∧ LOkE (q.1.1, q.2) }
def encLdIn (w : World) (q : LdIn w) : List Value := encP encI q.1.1
theorem lvs_of {w : World} {a : Option Addr} {n : Nat} {l : List Lv64} (h : Rd 2 encS64 (· < w.heap.size) w a n l) : Sl 2 encS w a n (l.map Subtype.val) ∧ ∀ y ∈ l.map Subtype.val, I64 y.1 ∧ I64 y.2 := by
  refine ⟨⟨by rw [List.length_map]; exact h.1, ?_⟩, ?_⟩
  · rcases h.2 with h2 | ⟨x, o, e1, e2, e3⟩
    · exact .inl h2
    · refine .inr ⟨x, o, e1, e2, fun j y hj c u hu => ?_⟩
      rw [List.getElem?_map] at hj
      cases hl : l[j]? with
      | none => rw [hl] at hj; cases hj
      | some z =>
        rw [hl] at hj
        simp only [Option.map_some, Option.some.injEq] at hj
        subst hj
        exact e3 j z hl c u hu
  · intro x hx
    obtain ⟨y, _, rfl⟩ := List.mem_map.1 hx
    exact y.2
theorem links_of {w : World} {a : Option Addr} {n : Nat} {l : List (LdIn w)} (h : Rd 2 (encLdIn w) (· < w.heap.size) w a n l) : ∃ L : List Lkd, LkL w a n L ∧ ∀ c ∈ L, LOkE c := by
  refine ⟨l.map (fun q => (q.1.1.1, q.1.2)), ⟨l.map (fun q => q.1.1), ⟨by rw [List.length_map]; exact h.1, ?_⟩, by rw [List.length_map]; exact h.1, fun j q c hq hc => ?_⟩, fun c hc => ?_⟩
  · rcases h.2 with h2 | ⟨x, o, e1, e2, e3⟩
    · exact .inl h2
    · refine .inr ⟨x, o, e1, e2, fun j y hj c u hu => ?_⟩
      rw [List.getElem?_map] at hj
      cases hl : l[j]? with
      | none => rw [hl] at hj; cases hj
      | some z =>
        rw [hl] at hj
        simp only [Option.map_some, Option.some.injEq] at hj
        subst hj
        exact e3 j z hl c u hu
  · rw [List.getElem?_map] at hq hc
    cases hl : l[j]? with
    | none => rw [hl] at hq; cases hq
    | some z =>
      rw [hl] at hq hc
      simp only [Option.map_some, Option.some.injEq] at hq hc
      subst hq hc
      exact ⟨rfl, z.2.1⟩
  · obtain ⟨z, _, rfl⟩ := List.mem_map.1 hc
    exact z.2.2
abbrev NdE := { y : Nd // NOkE y }
def encNE (y : NdE) : List Value := encN y.1
theorem nodesE_of {S : Nat → Prop} {w : World} {a : Option Addr} {n : Nat} {l : List NdE} (h : Rd 3 encNE S w a n l) : ∃ lb : List Nd, Rd 3 encN S w a n lb ∧ ∀ x ∈ lb, NOkE x := by
  refine ⟨l.map Subtype.val, ⟨by rw [List.length_map]; exact h.1, ?_⟩, ?_⟩
  · rcases h.2 with h2 | ⟨x, o, e1, e2, e3⟩
    · exact .inl h2
    · refine .inr ⟨x, o, e1, e2, fun j y hj c u hu => ?_⟩
      rw [List.getElem?_map] at hj
      cases hl : l[j]? with
      | none => rw [hl] at hj; cases hj
      | some z =>
        rw [hl] at hj
        simp only [Option.map_some, Option.some.injEq] at hj
        subst hj
        exact e3 j z hl c u hu
  · intro x hx
    obtain ⟨y, _, rfl⟩ := List.mem_map.1 hx
    exact y.2
/-- where a slice that came in may lie -/
theorem form_ok {P : Program} {w : World} {r : Reach} {b0 : Nat} {t e : TypeId} {a : Option Addr} {n c : Nat} (ht : P.underlying t = some (.slice e)) (hv : Value.okWide P w r b0 t (.slice a n c)) : (a = none ∧ c = 0) ∨ ∃ x o, a = some ⟨x, o, none⟩ := by
  unfold Value.okWide at hv
  rw [ht] at hv
  unfold Cell.okWide at hv
  rw [ht] at hv
  unfold Cell.ok at hv
  rw [ht] at hv
  cases a with
  | none =>
    rcases n with _ | n <;> rcases c with _ | c
    · exact .inl ⟨rfl, rfl⟩
    · exact absurd hv (by simp)
    · exact absurd hv (by simp)
    · exact absurd hv (by simp)
  | some a =>
    obtain ⟨x, o, s⟩ := a
    have : s = none := by simpa using hv.2.2.2.1
    subst this
    exact .inr ⟨x, o, rfl⟩
end Go.Proofs.YtjaemckdfoaopaaDoor

/-
  WireNodes returns true for every list of numbers, every list of nodes, every list of links and every list of bytes, and leaves its arguments as they were.
  Condition: the letters of the keys are as the program text lays them (tied by the card).
-/
namespace Go.Proofs.YtjaemckdfoaopaaDoor
open Go.ChangeShapes Go.WideShapes Go.ChangeAt Go.RowKit Go.Deep Go.Joins
open Go.ChangeMaps (open_string shut_string)
set_option linter.unusedVariables false
theorem Tryd.cellsInt : Tryd.prog.cellsOf 3 = 1 := by kernel_rfl
theorem Tryd.cellsByte : Tryd.prog.cellsOf 5 = 1 := by kernel_rfl
theorem Tryd.cellsNode : Tryd.prog.cellsOf 68 = 3 := by kernel_rfl
theorem Tryd.cellsLinked : Tryd.prog.cellsOf 76 = 2 := by kernel_rfl
theorem Tryd.cellsLink : Tryd.prog.cellsOf 73 = 2 := by kernel_rfl

set_option maxRecDepth 100000 in
set_option maxHeartbeats 1000000 in
theorem wireNodes_lifted (os : Os) (started : os.Started) (H : Type) (enc : TypeId × Value → H) :
    ReturnsInHanded {} Tryd.checked os 5 .any (fun w args => (Rows.wireNodesSpec.pre enc Tryd.prog Tryd.f5 [] false w args ∧ laidMetH Tryd.prog Rows.wireNodesRow.laid w) ∧ sizedMet enc Tryd.prog Tryd.f5 (OpenSpec.ofChange Rows.wireNodesSpec) false w args)
      (Rows.wireNodesSpec.post enc Tryd.prog Tryd.f5 false true false false) := by
  refine returnsInHanded_of_change_and (C := Tryd.checked) (X := fun w _ => laidMetH Tryd.prog Rows.wireNodesRow.laid w) (fun _ _ _ hh h => h.of_heap hh) own started (by kernel_rfl) Tryd.func5
    (ChangeSpec.witness_shaped (enc := enc) (C := Tryd.checked) (os := os) (X := fun w _ => laidMetH Tryd.prog Rows.wireNodesRow.laid w) false (World.doorLaid Tryd.prog 400 os) #[.slice none 0 0, .slice none 0 0, .slice none 0 0, .slice none 0 0] 8 rfl (World.shaped_of_RefB (by kernel_rfl) (by kernel_rfl)) (by kernel_rfl) (by kernel_rfl) (by kernel_rfl) (laidMetH_of_parts3 (fuel := 8) (laidMet_of_run' 8 (by kernel_rfl) (by kernel_rfl)) (by kernel_rfl) (by kernel_rfl))) ?_
  intro W base args ds gs before hval0 hW _ _ hL _
  have hval : ∀ (j : Nat) t v, Tryd.f5.params[j]? = some t → args[j]? = some v → Value.okWide Tryd.prog W .any base t v := hval0
  have hW' := hW
  obtain ⟨p, q, hA0, hV, rfl, hfz, hnd⟩ := hW
  have hA : DataW.TrodAll enc Tryd.prog W 0 (fun _ => true) true Tryd.f5.params.toList args.toList ds p := hA0
  rw [Tryd.params5] at hA hval
  obtain ⟨v0, vs0, d0, ds0, p0, q0, hargs, rfl, rfl, h0, r0⟩ := trodAll_cons hA
  obtain ⟨v1, vs1, d1, ds1, p1, q1, rfl, rfl, rfl, h1, r1⟩ := trodAll_cons r0
  obtain ⟨v2, vs2, d2, ds2, p2, q2, rfl, rfl, rfl, h2, r2⟩ := trodAll_cons r1
  obtain ⟨v3, vs3, d3, ds3, p3, q3, rfl, rfl, rfl, h3, r3⟩ := trodAll_cons r2
  obtain ⟨rfl, rfl, rfl⟩ := trodAll_nil r3
  obtain rfl : args = #[v0, v1, v2, v3] := by cases args; simp_all
  obtain ⟨rfl, rfl⟩ := trodVars_none hV
  have k0 := h0
  have lt0 : ∀ x ∈ p0, x.block < W.heap.size := by obtain ⟨m, hm⟩ := k0; exact DataW.trod_lt m _ _ _ hm
  have k1 := h1
  have lt1 : ∀ x ∈ p1, x.block < W.heap.size := by obtain ⟨m, hm⟩ := k1; exact DataW.trod_lt m _ _ _ hm
  have k2 := h2
  have lt2 : ∀ x ∈ p2, x.block < W.heap.size := by obtain ⟨m, hm⟩ := k2; exact DataW.trod_lt m _ _ _ hm
  have k3 := h3
  have lt3 : ∀ x ∈ p3, x.block < W.heap.size := by obtain ⟨m, hm⟩ := k3; exact DataW.trod_lt m _ _ _ hm
  obtain ⟨A0, n0, cap0, l0, rfl, rd0, hc0, hm0, wf0, nl0⟩ := rd_ints Tryd.underlying22 Tryd.underlying3 Tryd.cellsInt (hval 0 22 v0 rfl rfl) h0
  obtain ⟨A1, n1, cap1, l1s, rfl, rd1s, hc1, hm1, nl1⟩ := rd_structs (encS := encNE) (k := 3) Tryd.underlying43 Tryd.underlying68 (by kernel_rfl) Tryd.cellsNode rfl (by omega) (hval 1 43 v1 rfl rfl) h1
    (fun n cell hf => by
      obtain ⟨v, y, hc, ht⟩ := hf 0 _ rfl
      obtain ⟨v', y', hc', ht'⟩ := hf 1 _ rfl
      obtain ⟨v'', y'', hc'', ht''⟩ := hf 2 _ rfl
      obtain ⟨a, e0, rfl, wi⟩ := DataW.trod_int Tryd.underlying3 ht
      obtain ⟨s, e1, rfl, wz⟩ := DataW.trod_string Tryd.underlying9 ht'
      obtain ⟨m, e2, rfl, wf⟩ := DataW.trod_int Tryd.underlying65 ht''
      simp at e0 e1 e2
      subst e0 e1 e2
      have hb := bounds_u32 wf
      obtain ⟨m, rfl⟩ := Int.eq_ofNat_of_zero_le hb.1
      have hi := bounds_i64 wi
      refine ⟨⟨⟨a, s, m⟩, hi.1, hi.2, (by show m < 4294967296; omega), wz⟩, fun c u hu => ?_⟩
      rcases c with _ | _ | _ | c
      · simp [encNE, encN] at hu; subst hu; exact hc
      · simp [encNE, encN] at hu; subst hu; exact hc'
      · simp [encNE, encN] at hu; subst hu; exact hc''
      · simp [encNE, encN] at hu)
  obtain ⟨l1, rd1, wn1⟩ := nodesE_of rd1s
  obtain ⟨A2, n2, cap2, l2s, rfl, rd2s, hc2, hm2, nl2⟩ := rd_structs (encS := encLdIn W) (k := 2) Tryd.underlying44 Tryd.underlying76 (by kernel_rfl) Tryd.cellsLinked rfl (by omega) (hval 2 44 v2 rfl rfl) h2
    (fun n cell hf => by
      obtain ⟨v, y, hc, ht⟩ := hf 0 _ rfl
      obtain ⟨v', y', hc', ht'⟩ := hf 1 _ rfl
      obtain ⟨a, e0, rfl, wf⟩ := DataW.trod_int Tryd.underlying3 ht
      simp at e0
      subst e0
      obtain ⟨a', n', c', ls, rfl, rl, hl1, hl2⟩ := rd_structs_in (encS := encS64) (k := 2) Tryd.underlying74 Tryd.underlying73 (by kernel_rfl) Tryd.cellsLink rfl (by omega) ht'
        (fun n cell hf => by
          obtain ⟨v, y, hc, ht⟩ := hf 0 _ rfl
          obtain ⟨v', y', hc', ht'⟩ := hf 1 _ rfl
          obtain ⟨p, e0, rfl, w0⟩ := DataW.trod_int Tryd.underlying3 ht
          obtain ⟨q, e0', rfl, w1⟩ := DataW.trod_int Tryd.underlying3 ht'
          simp at e0 e0'
          subst e0 e0'
          have b0 := bounds_i64 w0
          have b1 := bounds_i64 w1
          refine ⟨⟨(p, q), ⟨by show _ ≤ p; omega, by show p ≤ _; omega⟩, ⟨by show _ ≤ q; omega, by show q ≤ _; omega⟩⟩, fun c u hu => ?_⟩
          rcases c with _ | _ | c
          · simp [encS64, encS] at hu; subst hu; exact hc
          · simp [encS64, encS] at hu; subst hu; exact hc'
          · simp [encS64, encS] at hu)
      have hb := bounds_i64 wf
      obtain ⟨s1, s2⟩ := lvs_of rl
      refine ⟨⟨((a, (a', n', c')), ls.map Subtype.val), s1, ⟨by show _ ≤ a; omega, by show a ≤ _; omega⟩, by have := s1.len; unfold maxLen at hl2; show (ls.map Subtype.val).length ≤ _; omega, s2⟩, fun c u hu => ?_⟩
      rcases c with _ | _ | c
      · simp [encLdIn, encP, encI, Hdr.val] at hu; subst hu; exact hc
      · simp [encLdIn, encP, encI, Hdr.val] at hu; subst hu; exact hc'
      · simp [encLdIn, encP, encI, Hdr.val] at hu)
  obtain ⟨l2, rd2, wl2⟩ := links_of rd2s
  obtain ⟨A3, n3, cap3, l3i, rfl, rd3i, hc3, hm3, wf3, nl3⟩ := rd_ints Tryd.underlying23 Tryd.underlying5 Tryd.cellsByte (hval 3 23 v3 rfl rfl) h3
  obtain ⟨l3, rd3⟩ := bytes_of rd3i wf3
  clear hA0 hval0
  have hLL : LetG W := letG_of hL (by kernel_rfl)
  have hf3 : Form A3 cap3 := form_ok Tryd.underlying23 (hval 3 23 _ rfl rfl)
  refine (wirenodes_walk A0 n0 cap0 l0 A1 n1 cap1 l1 A2 n2 cap2 l2 A3 n3 cap3 l3 W rd0 hc0 hm0 rd1 wn1 rd2 wl2 rd3 hc3 hm3 hf3 hLL).mono fun e W' ⟨he, hch⟩ => ?_
  have bel : Below W.heap.size W W' := hch.below (fun _ h => h)
  subst he
  exact ⟨_, rfl, _, _, _, [], _, [], hW', trodAll_mk1 (shut_bool Tryd.underlying4 _), (trodAll_cons_mk (Below.trod laidOut (by kernel_rfl) (of_decide_eq_true (by kernel_rfl)) k0 bel lt0) (trodAll_cons_mk (Below.trod laidOut (by kernel_rfl) (of_decide_eq_true (by kernel_rfl)) k1 bel lt1) (trodAll_cons_mk (Below.trod laidOut (by kernel_rfl) (of_decide_eq_true (by kernel_rfl)) k2 bel lt2) (trodAll_cons_mk (Below.trod laidOut (by kernel_rfl) (of_decide_eq_true (by kernel_rfl)) k3 bel lt3) trodAll_mk0)))), rfl, bel.frame _, fun h => by cases h⟩

theorem wireNodes_over : Rows.wireNodesRow.holds Tryd.pinned (OpenSpec.ofChange Rows.wireNodesSpec) :=
  OpenClaim.holds_of_wide 5 Tryd.f5 rfl rfl rfl rfl rfl rfl rfl ⟨rfl, rfl, rfl, rfl, rfl⟩ rfl rfl rfl rfl rfl (by kernel_rfl) Tryd.func5 (by kernel_rfl)
    (of_decide_eq_true (by kernel_rfl)) (by unfold Func.isWrapper; first | (rw [if_pos (by decide +kernel)]; kernel_rfl) | (rw [if_neg (by decide +kernel)]; exact ⟨rfl, rfl⟩))
    (fun os started H enc _ => wireNodes_lifted os started H enc)

/-- THE STATEMENT: the tied card -/
theorem WireNodes_holds : Rows.WireNodesCardSaid :=
  Claim7.holds_tied_plain_at .later [] [.data] true (true, "a112417fd9373c6c44a8b957c20518ce724ff9132b651187ca5f82ab7f2fa11a") false
    wireNodes_over (fun _ h => by cases h) (by kernel_rfl) (fun _ h => by cases h) wireNodes_row_tie rfl ⟨rfl, rfl⟩ (by kernel_rfl) rfl
    (fun f fn hf hfn => by
      obtain rfl : f = 5 := Option.some.inj ((show Tryd.prog.funcNamed "skipgraph/skipgraphlaw3.WireNodes" = some 5 by kernel_rfl).symm.trans hf) |>.symm
      obtain rfl : fn = Tryd.f5 := (Option.some.inj (Tryd.func5.symm.trans hfn)).symm
      exact ⟨by kernel_rfl, fun j t ht => by
        rw [Tryd.params5] at ht
        have hm : t ∈ [22, 43, 44, 23] := by simpa using Array.mem_of_getElem? ht
        have hall : ([22, 43, 44, 23].all fun u => !Tryd.prog.wantsStandIn u) = true := by kernel_rfl
        exact (show Tryd.prog.wantsStandIn t = false by simpa using List.all_eq_true.1 hall t hm)⟩)
    (by kernel_rfl)
#print axioms WireNodes_holds
end Go.Proofs.YtjaemckdfoaopaaDoor
