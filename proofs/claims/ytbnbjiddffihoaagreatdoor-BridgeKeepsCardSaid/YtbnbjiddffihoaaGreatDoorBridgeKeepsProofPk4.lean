/- Texts for the statement BridgeKeepsProof, part 4 of 12: Ils, BldP, MapI, Tape, TapeK, Key, TWord, Rost, TapeBool, TId, Odd, BldM, BldW, BldQ, IdlL. -/
import Derived.Test.YtbnbjiddffihoaaGreatDoorRows
import Derived.WalkArith
import Derived.Maps.OwnOps
import Derived.Maps.Views
import Derived.Deep.RegionHeld3
import Derived.Test.YtbnbjiddffihoaaGreatDoorBridgeKeepsProofPk1
import Derived.Test.YtbnbjiddffihoaaGreatDoorBridgeKeepsProofPk3

/- Lists of lists of numbers: ids of nodes, Lists of the package ideal. -/
namespace Go.Proofs.YtbnbjiddffihoaaGreatDoor
open Go.RowKit

theorem Tryz.infoI6 : (Tryz.prog.info? 3).map (fun i => (i.zero, i.size, i.bytes)) = some (some (.int .i64 0), 1, 8) := by kernel_rfl
theorem Tryz.infoIL : (Tryz.prog.info? 22).map (fun i => (i.zero, i.size, i.bytes)) = some (some (.slice none 0 0), 1, 24) := by kernel_rfl

def enc0 : Unit → List Value := fun _ => []
def pairU (m : List Int) : Unit × List Int := ((), m)
abbrev OwnIL (base : Nat) (w : World) (v : Value) (qs : List (Unit × Hdr)) (M : List (List Int)) : Prop := OwnN enc0 1 1 encI 22 3 base w v qs (M.map pairU)
abbrev IL (w : World) (a : Option Addr) (n : Nat) (M : List (List Int)) : Prop := NL enc0 1 1 encI w a n (M.map pairU)
def IlPost (M : List (List Int)) (w : World) (e : Ending) (w' : World) : Prop :=
  ∃ (v : Value) (qs : List (Unit × Hdr)), e = .returned v ∧ OwnIL w.heap.size w' v qs M ∧ Ex w w'
def idsN (c : List Nd) : List Int := c.map Nd.id
theorem idsN_snoc (c : List Nd) (k : Nat) (y : Nd) (hy : c[k]? = some y) : idsN (c.take (k + 1)) = idsN (c.take k) ++ [y.id] := by
  unfold idsN; rw [take_snocN c k y hy, List.map_append]; rfl
theorem idsC_snoc (C : List (List Nd)) (k : Nat) (c : List Nd) (hc : C[k]? = some c) : (((C.take (k + 1)).map idsN).map pairU) = (((C.take k).map idsN).map pairU) ++ [((), idsN c)] := by
  rw [List.take_add_one, hc, List.map_append, List.map_append]; rfl
def listsN (l : List Nd) (h : Int) : List (List Int) := if (checkN l == 0) = true ∧ lvlN h = true then (classesN (sortN l) h).map idsN else []
theorem classesN_sm (l : List Nd) (h : Int) (hl : l.length ≤ 1000) : (classesN l h).length ≤ 1000 ∧ ∀ c ∈ classesN l h, c.length ≤ 1000 := by
  refine ⟨Nat.le_trans (classes_le l h) hl, ?_⟩
  intro c hc
  by_cases hh : 16 < h
  · rw [classesN_big hh] at hc; cases hc
  · rw [classesN_fold hh] at hc
    have := foldC_fine (h := h) (P := fun _ => True) l (fun _ _ => trivial)
    exact Nat.le_trans (this c hc).2.1 hl
def IdqRel (c : List Nd) (n : Nat) (w : World) (o i : Value) (wr : World) : Prop :=
  ∃ k : Nat, k ≤ n ∧ i = .int .i64 k ∧ OwnL 1 encI 3 w.heap.size wr o (idsN (c.take k)) ∧ Ex w wr
def IlRel (C : List (List Nd)) (w : World) (o i : Value) (wr : World) : Prop :=
  ∃ (k : Nat) (qs : List (Unit × Hdr)), k ≤ C.length ∧ i = .int .i64 k ∧ OwnIL w.heap.size wr o qs ((C.take k).map idsN) ∧ Ex w wr

set_option maxRecDepth 100000 in
set_option maxHeartbeats 2000000 in
theorem lists_p (a : Option Addr) (n c : Nat) (l : List Nd) (h : Int) (w : World) (hs : Sl 3 encN w a n l) (hn : n ≤ 1000) (hc : n ≤ c) (hm : c ≤ maxLen) (hw : ∀ x ∈ l, x.word < 4294967296) (hT : TabG w) :
    Calls Tryz.prog 94 #[.slice a n c, .int .i64 h] w (IlPost (listsN l h) w) := by
  have HW := Lib.hid hw
  have HL := Lib.hid hs.len
  have HT := Lib.hid hT
  clear hw hT
  go_enter Tryz.func94, Tryz.ntmps94
  go_wp2_with fail
  (with_reducible refine (ordered_p _ _ _ _ _ hs hn hc hm).mono ?_)
  rintro e w1 ⟨v, S, rfl, OS, ⟨hp, hsrt⟩, k1⟩
  have SL := Lib.hid hp.length_eq
  have SW : Hid (∀ x ∈ S, x.word < 4294967296) := Lib.hid (fun x hx => HW.out x (hp.mem_iff.1 hx))
  have HSR := Lib.hid hsrt
  replace HT := Lib.hid (HT.out.nx k1)
  clear hp hsrt hs
  by_cases hck : checkN l = 0
  case neg =>
    have HNO : Hid (listsN l h = []) := Lib.hid (by unfold listsN; rw [if_neg]; rintro ⟨h1, _⟩; exact hck (by simpa using h1))
    have d1 : (checkN l == 0) = false := by simpa using hck
    rw [d1]
    clear hck d1 OS
    go_wp2_with fail
    go_ret
    rw [HNO.out]
    exact ⟨_, [], rfl, OwnN.nil _ _ _ _ _ _ _ _, k1⟩
  have HCK := Lib.hid hck
  have d1 : (checkN l == 0) = true := by simpa using hck
  rw [d1]
  clear hck d1
  by_cases hlo : h < 0
  · have HNO : Hid (listsN l h = []) := Lib.hid (by unfold listsN; rw [if_neg]; rintro ⟨_, h1⟩; unfold lvlN at h1; simp at h1; omega)
    clear OS
    go_wp2_with fail
    go_ret
    rw [HNO.out]
    exact ⟨_, [], rfl, OwnN.nil _ _ _ _ _ _ _ _, k1⟩
  by_cases hhi : 16 < h
  · have HNO : Hid (listsN l h = []) := Lib.hid (by unfold listsN; rw [if_neg]; rintro ⟨_, h1⟩; unfold lvlN at h1; simp at h1; omega)
    clear OS
    go_wp2_with fail
    go_ret
    rw [HNO.out]
    exact ⟨_, [], rfl, OwnN.nil _ _ _ _ _ _ _ _, k1⟩
  have HYES : Hid (listsN l h = (classesN S h).map idsN) := Lib.hid (by
    unfold listsN; rw [if_pos ⟨by rw [HCK.out]; rfl, by unfold lvlN; simp; omega⟩, HSR.out HCK.out])
  have HSM := Lib.hid (classesN_sm S h (by have := HL.out; have := SL.out; omega))
  obtain ⟨aS, cS, rfl, sS, _, _⟩ := OS.sl3 (fun _ => rfl)
  have hnS : S.length ≤ 1000 := by have := HL.out; have := SL.out; omega
  clear OS
  go_wp2_with fail
  (with_reducible refine (classes_p _ _ _ _ _ _ sS hnS SW.out HT.out).mono ?_)
  rintro e w2 ⟨a2, c2, rfl, C2, k2⟩
  replace k1 := Lib.hid (k1.nx k2)
  have hsz := k1.out.size
  generalize classesN S h = C at C2 HSM HYES ⊢
  have C2 := Lib.hid C2
  have hC := HSM.out.1
  clear k2 sS
  go_wp2_with fail
  go_loopw [7, 32] (fun o i wr => IlRel C w2 o i wr) (fun _ i _ => C.length - (intOf i).toNat)
  case atStart => exact ⟨0, [], by omega, rfl, OwnN.nil _ _ _ _ _ _ _ _, Ex.refl _⟩
  case round =>
    obtain ⟨k, qs, hk, rfl, OQ, kw⟩ := hrel
    obtain ⟨wo, rfl⟩ : ∃ wo : World, wo = wr := ⟨_, rfl⟩
    by_cases hlt : k < C.length
    · obtain ⟨x1, o1, a', n', c', cc, rfl, hx1, hcc, hcell, hsl⟩ := (C2.out.nx kw).at hlt
      have HCC := Lib.hid hcc
      have hnl := hsl.len
      have hcl : cc.length ≤ 1000 := HSM.out.2 cc (List.mem_of_getElem? hcc)
      subst hnl
      have OQ := Lib.hid OQ
      have HSL := Lib.hid hsl
      have hzo := kw.size
      have KW := Lib.hid kw
      clear hcc hsl kw
      go_wp2_with fail
      clear hcell
      go_loopw [10, 38] (fun o i wr => IdqRel cc cc.length wo o i wr) (fun _ i _ => cc.length - (intOf i).toNat)
      case atStart => exact ⟨0, by omega, rfl, OwnL.nil _ _ _ _ _, Ex.refl _⟩
      case round =>
        obtain ⟨j, hj, rfl, own, ki⟩ := hrel
        obtain ⟨wi, rfl⟩ : ∃ wi : World, wi = wr := ⟨_, rfl⟩
        by_cases hjm : j < cc.length
        · obtain ⟨x3, o3, y, rfl, hx3, hy, hc3⟩ := (HSL.out.nx ki).at hjm
          obtain ⟨yi, yk, yw⟩ := y
          have e0 : wi.cell? ⟨x3, o3 + j * 3, none⟩ = some (.int .i64 yi) := hc3 0 _ rfl
          have e1 : wi.cell? ⟨x3, o3 + j * 3 + 1, none⟩ = some (.string yk) := hc3 1 _ rfl
          have e2 : wi.cell? ⟨x3, o3 + j * 3 + 2, none⟩ = some (.int .u32 yw) := hc3 2 _ rfl
          have e2' : wi.cell? ⟨x3, o3 + j * 3 + 1 + 1, none⟩ = some (.int .u32 yw) := e2
          have SN := Lib.hid (idsN_snoc cc j _ hy)
          have hrl : (idsN (cc.take j)).length = j := by unfold idsN; rw [List.length_map, List.length_take]; omega
          clear hy hc3
          have k7 := Ex.new wi (.cells #[.int .i64 yi, .string yk, .int .u32 yw] 57)
          have B4 := Blk.new wi [.int .i64 yi, .string yk, .int .u32 yw] 57
          obtain ⟨w7, hw7⟩ : ∃ w7, w7 = wi.alloc (.cells #[.int .i64 yi, .string yk, .int .u32 yw] 57) := ⟨_, rfl⟩
          obtain ⟨g4, hg4⟩ : ∃ g4, g4 = wi.heap.size := ⟨_, rfl⟩
          have B4 : Blk w7 g4 [.int .i64 yi, .string yk, .int .u32 yw] 57 := by rw [hw7, hg4]; exact B4
          rw [← hw7] at k7
          have HW7 := Lib.hid hw7
          have HG4 := Lib.hid hg4
          replace own := own.nx k7
          replace ki := ki.nx k7
          generalize idsN (cc.take j) = row at own SN hrl
          clear hw7 hg4 k7
          go_upto_region 12 with fail
          rw [← HG4.out, ← HW7.out]
          clear e0 e1 e2 e2'
          have y0 := B4.cell 0 _ rfl
          have zb := ki.size
          go_wp2_with (at_builtin; (refine wpList_append_lit (enc := encI) w7 rfl _ _ 22 rfl wo.heap.size 3 (.int .i64 0) 1 8 Tryz.underlying22 Tryz.infoI6 rfl (by omega) (by omega) _ _ own rfl (yi : Int) _ rfl rfl (by simp [encI, Value.oneCell']) _ (by simp) rfl (by omega) zb _ ?_); intro v6 w6 own6 _ ch1 _)
          refine ⟨⟨j + 1, by omega, by go_num, by rw [SN.out]; exact own6, Chg.trans ki ch1⟩, by simp [intOf]; omega⟩
        · obtain rfl : j = cc.length := by omega
          rw [List.take_length] at own
          have OQ1 := OQ.out.nx ki
          obtain ⟨a6, c6, rfl, _, _, _, _⟩ := own.rd (fun _ => rfl)
          have hkq : qs.length = k := by rw [OQ1.2.1, List.length_map, List.length_map, List.length_take]; omega
          have hzi : w2.heap.size ≤ wi.heap.size := by have := ki.size; omega
          have FR : ∀ (j : Nat) (r : Unit × Hdr) (g : Nat), qs[j]? = some r → r.2.val.ownBlock = some g → ¬ (Value.slice a6 (idsN cc).length c6).ownBlock = some g := by
            intro j r g hr hg hv
            have h1 := OQ.out.lt hr hg
            have h2 := (own.lt g hv).1
            omega
          clear hjm hj
          have k8 := Ex.new wi (.cells #[.slice a6 (idsN cc).length c6] 22)
          have SX : Sl 1 (encP enc0) (wi.alloc (.cells #[.slice a6 (idsN cc).length c6] 22)) (some ⟨wi.heap.size, 0, none⟩) 1 [(((), (a6, (idsN cc).length, c6)) : Unit × Hdr)] := Sl.lit _ rfl rfl (fun _ => rfl) rfl
          have OQ2 := OQ1.nx k8
          have own2 := own.nx k8
          have ki8 := ki.nx k8
          have hql : qs.length ≤ 1000000 := by omega
          go_wp2_with (at_builtin; (refine wpList_append_W (enc := encP enc0) _ rfl _ _ 109 rfl w2.heap.size 22 (.slice none 0 0) 1 24 Tryz.underlying109 Tryz.infoIL rfl (by omega) (by omega) _ _ OQ2.1 rfl _ 1 1 [_] SX (fun _ => rfl) (by simp [encP, enc0, Hdr.val, Value.oneCell']) rfl hql (by omega) (by simp; omega) ?_); intro v7 w7 own7 ch0 ch1 _)
          have OQ7 := OQ2.push (by decide) own7 ch0 (own2.base (by omega)) FR
          have kw7 : Ex w2 w7 := Chg.trans (KW.out.nx ki8) ch1
          exact ⟨⟨k + 1, qs ++ [(((), (a6, (idsN cc).length, c6)) : Unit × Hdr)], by omega, by go_num, by show OwnN enc0 1 1 encI _ _ _ _ _ _ (((C.take (k + 1)).map idsN).map pairU); rw [idsC_snoc C k cc HCC.out]; exact OQ7, kw7⟩, by simp [intOf]; omega⟩
    · obtain rfl : k = C.length := by omega
      rw [List.take_length] at OQ
      have OQ := Lib.hid OQ
      clear hk hlt
      go_wp2_with fail
      go_ret
      rw [HYES.out]
      exact ⟨_, qs, rfl, OwnN.base OQ.out hsz, k1.out.nx kw⟩
end Go.Proofs.YtbnbjiddffihoaaGreatDoor

/- The links that Build of the package ideal lays, in plain Lean: link by link from the lists, against the neighbours by their definition. -/
namespace Go.Proofs.YtbnbjiddffihoaaGreatDoor
open Go.RowKit

abbrev FnL := Int → Nat → Int × Int
def updL (F : FnL) (id : Int) (j : Nat) (v : Int) : FnL := fun x h => if x = id ∧ h = j then (v, (F x h).2) else F x h
def updR (F : FnL) (id : Int) (j : Nat) (v : Int) : FnL := fun x h => if x = id ∧ h = j then ((F x h).1, v) else F x h
def atI (ids : List Int) (q : Nat) : Int := ids[q]?.getD 0
def procI (ids : List Int) (j : Nat) (F : FnL) : Nat → FnL
  | 0 => F
  | n + 1 => updR (updL (procI ids j F n) (atI ids (n + 1)) j (atI ids n)) (atI ids n) j (atI ids (n + 1))
def procL (j : Nat) (M : List (List Int)) (F : FnL) : FnL := M.foldl (fun F ids => procI ids j F (ids.length - 1)) F
def procB (S : List Nd) : Nat → FnL
  | 0 => fun _ _ => (0, 0)
  | j + 1 => procL j (listsN S (j : Nat)) (procB S j)
def rowsF (S : List Nd) (m : Nat) (F : FnL) : List Lkd := S.map fun x => (x.id, (List.range m).map fun j => F x.id j)

theorem procL_snoc (j : Nat) (M : List (List Int)) (F : FnL) (k : Nat) (c : List Int) (hc : M[k]? = some c) : procL j (M.take (k + 1)) F = procI c j (procL j (M.take k) F) (c.length - 1) := by
  unfold procL
  rw [List.take_add_one, hc, List.foldl_append]
  rfl
theorem procI_other (ids : List Int) (j : Nat) (F : FnL) (n : Nat) (x : Int) (h : Nat) (hx : h ≠ j ∨ ∀ q, q ≤ n → x ≠ atI ids q) : procI ids j F n x h = F x h := by
  induction n with
  | zero => rfl
  | succ n ih =>
    have ih := ih (hx.imp id (fun g q hq => g q (by omega)))
    show updR (updL (procI ids j F n) (atI ids (n + 1)) j (atI ids n)) (atI ids n) j (atI ids (n + 1)) x h = _
    unfold updR updL
    rcases hx with hx | hx
    · rw [if_neg (fun e => hx e.2), if_neg (fun e => hx e.2), ih]
    · rw [if_neg (fun e => hx n (by omega) e.1), if_neg (fun e => hx (n + 1) (by omega) e.1), ih]
theorem atI_inj {ids : List Int} (hn : ids.Nodup) {p q : Nat} (hp : p < ids.length) (hq : q < ids.length) (e : atI ids p = atI ids q) : p = q := by
  unfold atI at e
  rw [List.getElem?_eq_getElem hp, List.getElem?_eq_getElem hq] at e
  have hw := List.pairwise_iff_getElem.1 hn
  rcases Nat.lt_trichotomy p q with h | h | h
  · exact absurd e (hw p q hp hq h)
  · exact h
  · exact absurd e.symm (hw q p hq hp h)
theorem procI_at {ids : List Int} (hn : ids.Nodup) (j : Nat) (F : FnL) {p : Nat} (hp : p < ids.length) :
    ∀ n, n < ids.length → procI ids j F n (atI ids p) j = (if 1 ≤ p ∧ p ≤ n then atI ids (p - 1) else (F (atI ids p) j).1, if p < n then atI ids (p + 1) else (F (atI ids p) j).2) := by
  intro n
  induction n with
  | zero => intro _; rw [if_neg (by omega), if_neg (by omega)]; rfl
  | succ n ih =>
    intro hl
    have ih := ih (by omega)
    have e1 : (atI ids p = atI ids (n + 1)) ↔ p = n + 1 := ⟨fun e => atI_inj hn hp hl e, fun e => by rw [e]⟩
    have e2 : (atI ids p = atI ids n) ↔ p = n := ⟨fun e => atI_inj hn hp (by omega) e, fun e => by rw [e]⟩
    show updR (updL (procI ids j F n) (atI ids (n + 1)) j (atI ids n)) (atI ids n) j (atI ids (n + 1)) (atI ids p) j = _
    unfold updR updL
    simp only [e1, e2, and_true]
    by_cases h1 : p = n + 1
    · rw [if_neg (by omega), if_pos h1, ih, if_pos (by omega : 1 ≤ p ∧ p ≤ n + 1), if_neg (by omega : ¬ p < n + 1)]
      simp only
      rw [if_neg (by omega : ¬ p < n), h1]
      rfl
    · by_cases h2 : p = n
      · rw [if_pos h2, if_neg h1, ih]
        simp only
        rw [if_pos (by omega : p < n + 1), h2]
        by_cases h3 : 1 ≤ n
        · rw [if_pos ⟨h3, Nat.le_refl _⟩, if_pos ⟨h3, by omega⟩]
        · rw [if_neg (by omega), if_neg (by omega)]
      · rw [if_neg h2, if_neg h1, ih]
        congr 1
        · by_cases h3 : 1 ≤ p ∧ p ≤ n
          · rw [if_pos h3, if_pos (by omega)]
          · rw [if_neg h3, if_neg (by omega)]
        · by_cases h3 : p < n
          · rw [if_pos h3, if_pos (by omega)]
          · rw [if_neg h3, if_neg (by omega)]
theorem procL_level (j : Nat) (M : List (List Int)) (F : FnL) (x : Int) (h : Nat) (hh : h ≠ j) : procL j M F x h = F x h := by
  unfold procL
  induction M generalizing F with
  | nil => rfl
  | cons c M ih => rw [List.foldl_cons, ih, procI_other _ _ _ _ _ _ (.inl hh)]
theorem atI_mem {ids : List Int} {q : Nat} (hq : q < ids.length) : atI ids q ∈ ids := by
  unfold atI; rw [List.getElem?_eq_getElem hq]; exact List.getElem_mem hq
theorem procI_mem (ids : List Int) (j : Nat) (F : FnL) (x : Int) (h : Nat) (hx : x ∉ ids) : procI ids j F (ids.length - 1) x h = F x h := by
  by_cases h0 : ids = []
  · subst h0; rfl
  · have : 0 < ids.length := List.length_pos_iff.2 h0
    exact procI_other _ _ _ _ _ _ (.inr fun q hq e => hx (e ▸ atI_mem (by omega)))
theorem procL_not (j : Nat) (M : List (List Int)) (F : FnL) (x : Int) (h : Nat) (hx : ∀ c ∈ M, x ∉ c) : procL j M F x h = F x h := by
  unfold procL
  induction M generalizing F with
  | nil => rfl
  | cons c M ih => rw [List.foldl_cons, ih _ (fun d hd => hx d (by simp [hd])), procI_mem _ _ _ _ _ (hx c (by simp))]
theorem procL_at (j : Nat) : ∀ (M : List (List Int)) (F : FnL), M.Pairwise (fun c d => ∀ x ∈ c, x ∉ d) → (∀ c ∈ M, c.Nodup) → ∀ c ∈ M, ∀ p, p < c.length → F (atI c p) j = (0, 0) →
    procL j M F (atI c p) j = (if 1 ≤ p then atI c (p - 1) else 0, if p + 1 < c.length then atI c (p + 1) else 0)
  | [], _, _, _, c, hc, _, _, _ => by cases hc
  | d :: M, F, hM, hN, c, hc, p, hp, hF => by
    rw [List.pairwise_cons] at hM
    show procL j M (procI d j F (d.length - 1)) (atI c p) j = _
    by_cases hcd : c ∈ M
    · rw [procL_at j M _ hM.2 (fun c hc => hN c (by simp [hc])) c hcd p hp]
      rw [procI_mem _ _ _ _ _ (fun hx => hM.1 c hcd _ hx (atI_mem hp))]
      exact hF
    · obtain rfl : c = d := by rcases List.mem_cons.1 hc with e | e; exact e; exact absurd e hcd
      rw [procL_not _ _ _ _ _ (fun d hd hx => hM.1 d hd _ (atI_mem hp) hx), procI_at (hN c (by simp)) j F hp (c.length - 1) (by omega), hF]
      congr 1
      · by_cases h3 : 1 ≤ p
        · rw [if_pos h3, if_pos (by omega)]
        · rw [if_neg h3, if_neg (by omega)]
      · by_cases h3 : p < c.length - 1
        · rw [if_pos h3, if_pos (by omega)]
        · rw [if_neg h3, if_neg (by omega)]
end Go.Proofs.YtbnbjiddffihoaaGreatDoor

/- A map from numbers to numbers that the call itself makes. -/
namespace Go.Proofs.YtbnbjiddffihoaaGreatDoor
open Go.RowKit

theorem Tryz.lawI : Go.Maps.Keyed Tryz.prog 3 := Go.Maps.int_keyed Tryz.underlying3
theorem Tryz.zeroI (w : World) : (zeroValue 3).run Tryz.prog w = .ok (.int .i64 0) w := by kernel_rfl
def MapI (w : World) (b n : Nat) (f : Int → Int) : Prop :=
  ∃ D : DataW Unit, w.ownsMap Tryz.prog 3 (plainElem Tryz.prog 3) b n D ∧ ∀ x : Int, D.atKey (.int .i64 x) (.lit (.int .i64 0)) = .lit (.int .i64 (f x))
theorem MapI.made (w : World) : MapI (w.alloc (.map #[] 0)) w.heap.size 0 (fun _ => 0) := ⟨.map [], World.ownsMap_made _ _ _ _, fun _ => rfl⟩
theorem wf_of {x : Int} (h : -9223372036854775808 ≤ x ∧ x ≤ 9223372036854775807) : (Lit.int .i64 x).wf = true := by
  exact WalkArith.wf_i64 h
theorem MapI.chg {w w' : World} {b n : Nat} {f : Int → Int} {S : Nat → Prop} (h : MapI w b n f) (k : Chg S w w') (hb : S b) : MapI w' b n f := by
  obtain ⟨D, ⟨es, clock, e1, F, e2, e3⟩, h2⟩ := h
  exact ⟨D, ⟨es, clock, (k.block b hb).trans e1, F, e2, e3⟩, h2⟩
theorem MapI.lt {w : World} {b n : Nat} {f : Int → Int} (h : MapI w b n f) : b < w.heap.size := by
  obtain ⟨D, h1, h2⟩ := h
  exact h1.lt
theorem MapI.nx {w w' : World} {b n : Nat} {f : Int → Int} (h : MapI w b n f) (k : Ex w w') : MapI w' b n f := h.chg k h.lt
theorem MapI.look {w : World} {b n : Nat} {f : Int → Int} (h : MapI w b n f) {x : Int} (hx : -9223372036854775808 ≤ x ∧ x ≤ 9223372036854775807) :
    (Instr.lookup 108 (.map (some b)) (.int .i64 x) false).run Tryz.prog w = .ok (.int .i64 (f x)) w := by
  obtain ⟨D, h1, h2⟩ := h
  obtain ⟨c, hrun, hat, _⟩ := h1.lookup_int (t := 108) Tryz.lawI Tryz.underlying108 Tryz.underlying3 (Tryz.zeroI w) (Go.Maps.keyOf_int_mk Tryz.underlying3 (wf_of hx))
  rw [h2 x] at hat
  cases hat
  exact hrun
theorem MapI.put {w : World} {b n : Nat} {f : Int → Int} (h : MapI w b n f) {x v : Int} (hx : -9223372036854775808 ≤ x ∧ x ≤ 9223372036854775807) (hv : -9223372036854775808 ≤ v ∧ v ≤ 9223372036854775807) (hn : n < maxLen) :
    ∃ w', (Instr.mapUpdate 108 (.map (some b)) (.int .i64 x) (.int .i64 v)).run Tryz.prog w = .ok () w' ∧ MapI w' b (n + 1) (fun y => if y = x then v else f y) ∧ Exb b w w' := by
  obtain ⟨D, h1, h2⟩ := h
  have hm : Go.Maps.IsMap D := by obtain ⟨_, _, _, _, _, e⟩ := h1; exact ⟨_, e⟩
  obtain ⟨w', hrun, h3, h4⟩ := h1.update (t := 108) Tryz.lawI Tryz.underlying108 hn (Go.Maps.keyOf_int_mk Tryz.underlying3 (wf_of hx)) (plainElem_int Tryz.underlying3 (wf_of hv))
  refine ⟨w', hrun, ⟨_, h3, fun y => ?_⟩, ⟨h4.1, h4.2, h4.3, h4.4, fun i hi => h4.5 i hi.1 (fun e => hi.2 (Option.some.inj e))⟩⟩
  by_cases hy : y = x
  · subst hy
    show _ = DataW.lit (.int .i64 (if y = y then v else f y))
    rw [if_pos rfl]
    exact Go.Maps.atKey_put_same hm (show Go.WideAt.IsKeyLit (.int .i64 y) from trivial) _ _
  · show _ = DataW.lit (.int .i64 (if y = x then v else f y))
    rw [if_neg hy, Go.Maps.atKey_put_other (fun e => hy (by cases e; rfl))]
    exact h2 y
end Go.Proofs.YtbnbjiddffihoaaGreatDoor

/- Walks over the tape of numbers from which the statements draw. -/
namespace Go.Proofs.YtbnbjiddffihoaaGreatDoor
open Go.RowKit

set_option maxHeartbeats 400000 in
theorem mod_any (v n : Int) (w : World) (hn : 1 ≤ n) (hn2 : n ≤ 9223372036854775807) :
    Calls Tryz.prog 31 #[.int .i64 v, .int .i64 n] w fun e w' => e = .returned (.int .i64 (v % n)) ∧ w = w' := by
  obtain ⟨h1, h2⟩ := tmod_bounds v n hn
  have H3 := Lib.hid (emod_of_tmod v n hn)
  go_enter Tryz.func31, Tryz.ntmps31
  go_wp2
  · go_ret
    exact ⟨by rw [H3.out, if_pos ‹_›]; rfl, rfl⟩
  · go_ret
    exact ⟨by rw [H3.out, if_neg (by omega)]; rfl, rfl⟩

set_option maxHeartbeats 400000 in
theorem next_end (b len cap i : Nat) (n : Int) (a : Option Addr) (w : World) (hb : w.heap[b]? = some (.cells #[.slice a len cap, .int .i64 i] 52 (0, 0))) (hi : len ≤ i) (hn : ¬ n < 1) :
    Calls Tryz.prog 9 #[.pointer (some ⟨b, 0, none⟩), .int .i64 n] w fun e w' => e = .returned (.int .i64 0) ∧ ∃ m, w.drewN m = w' := by
  have c0 : w.cell? ⟨b, 0, none⟩ = some (.slice a len cap) := by simp [World.cell?, hb]
  have c1 : w.cell? ⟨b, 1, none⟩ = some (.int .i64 i) := by simp [World.cell?, hb]
  have d1 : decide (n < 1) = false := by simp; omega
  clear hb
  go_enter Tryz.func9, Tryz.ntmps9
  go_wp2
  go_quiet (fail)
  go_wp2
  go_ret
  exact ⟨rfl, _, rfl⟩

set_option maxHeartbeats 400000 in
theorem next_small (b : Nat) (n : Int) (w : World) (hn : n < 1) :
    Calls Tryz.prog 9 #[.pointer (some ⟨b, 0, none⟩), .int .i64 n] w fun e w' => e = .returned (.int .i64 0) ∧ ∃ m, w.drewN m = w' := by
  have d1 : decide (n < 1) = true := by simp; omega
  go_enter Tryz.func9, Tryz.ntmps9
  go_wp2
  go_quiet (fail)
  go_wp2
  go_ret
  exact ⟨rfl, _, rfl⟩

set_option maxHeartbeats 400000 in
theorem next_go (b len cap i x o : Nat) (n v : Int) (w : World) (hb : w.heap[b]? = some (.cells #[.slice (some ⟨x, o, none⟩) len cap, .int .i64 i] 52 (0, 0))) (hi : i < len) (hl : len ≤ 600) (hn : ¬ n < 1) (hn2 : n ≤ 9223372036854775807)
    (hx : x ≠ b) (hc : w.cell? ⟨x, o + i, none⟩ = some (.int .i64 v)) :
    Calls Tryz.prog 9 #[.pointer (some ⟨b, 0, none⟩), .int .i64 n] w fun e w' => e = .returned (.int .i64 (v % n)) ∧ ∃ m k, ((w.drewN k).setCell ⟨b, 1, none⟩ (.int .i64 (i + 1))).drewN m = w' := by
  have c0 : w.cell? ⟨b, 0, none⟩ = some (.slice (some ⟨x, o, none⟩) len cap) := by simp [World.cell?, hb]
  have c1 : w.cell? ⟨b, 1, none⟩ = some (.int .i64 i) := by simp [World.cell?, hb]
  have f1 : w.frozen? ⟨b, 1, none⟩ = false := by simp [World.frozen?, hb]
  have d1 : decide (n < 1) = false := by simp; omega
  have e1 : IntKind.i64.wrap (i : Int) = i := IntWalk.i64_in _ (by omega)
  have e2 : IntKind.i64.wrap ((i : Int) + 1) = (i : Int) + 1 := IntWalk.i64_in _ (by omega)
  clear hb
  go_enter Tryz.func9, Tryz.ntmps9
  go_wp2
  go_quiet (fail)
  go_wp2
  go_quiet ((go_at_call 31; exact quiet_of_eq (mod_any _ _ _ (by omega) (by omega))))
  go_wp2
  go_ret
  exact ⟨rfl, _, _, rfl⟩

theorem next_x {B b : Nat} (n : Int) (w : World) (h : TP 52 B w b) (hn2 : n ≤ 9223372036854775807) :
    Calls Tryz.prog 9 #[.pointer (some ⟨b, 0, none⟩), .int .i64 n] w (SomeInt 0 (if n < 1 then 0 else n - 1) 52 B b w) := by
  by_cases hn : n < 1
  · refine (next_small b n w hn).mono ?_
    rintro e w' ⟨rfl, m, rfl⟩
    exact ⟨0, rfl, by omega, by rw [if_pos hn]; omega, (Chg.refl _ _).drewN _, h⟩
  · obtain ⟨a, cap, i, x, o, l, h1, h2, h3, h4, h5⟩ := id h
    by_cases hi : i < l.length
    · rcases h5 with rfl | ⟨rfl, e2, e3, e4⟩
      · simp at hi
      · refine (next_go b _ cap i x o n _ w h1 hi h3 hn hn2 e2 (e4 i hi)).mono ?_
        rintro e w' ⟨rfl, m, k, rfl⟩
        refine ⟨_, rfl, Int.emod_nonneg _ (by omega), ?_, ?_, ?_⟩
        · rw [if_neg hn]; have := Int.emod_lt_of_pos (l.getD i 0) (show 0 < n by omega); omega
        · exact (((Chg.refl _ _).drewN _).setCell _ (fun k hk => hk.2)).drewN _
        · refine ⟨_, cap, i + 1, x, o, l, ?_, h2, h3, by omega, .inr ⟨rfl, e2, e3, fun j hj => ?_⟩⟩
          · show (w.setCell ⟨b, 1, none⟩ (.int .i64 (i + 1))).heap[b]? = _
            simp [World.setCell, Array.getElem?_modify, h1]
          · show (w.setCell ⟨b, 1, none⟩ (.int .i64 (i + 1))).cell? _ = _
            rw [World.cell?_of_block (w := w) (Below.heap_setCell w _ _ _ e2)]
            exact e4 j hj
    · refine (next_end b _ cap i n a w h1 (by omega) hn).mono ?_
      rintro e w' ⟨rfl, m, rfl⟩
      exact ⟨0, rfl, by omega, by rw [if_neg hn]; omega, (Chg.refl _ _).drewN _, h⟩

theorem pick_x {B b s so len : Nat} (lo hi : Int) (l : List Int) (w : World) (h : TP 52 B w b) (hB : B ≤ s) (hs : s < w.heap.size) (hl : l.length = len) (hl0 : 0 < len) (hl2 : len ≤ 100)
    (hc : ∀ j, j < len → w.cell? ⟨s, so + j, none⟩ = some (.int .i64 (l.getD j 0))) (hr : ∀ x ∈ l, lo ≤ x ∧ x ≤ hi) :
    Calls Tryz.prog 17 #[.pointer (some ⟨b, 0, none⟩), .slice (some ⟨s, so, none⟩) len len] w (SomeInt lo hi 52 B b w) := by
  have hlt := h.lt
  go_enter Tryz.func17, Tryz.ntmps17
  go_wp2_with fail
  refine (next_x _ w h (by omega)).mono ?_
  rintro e w1 ⟨r, rfl, r0, r1, k1, t1⟩
  rw [if_neg (by omega)] at r1
  obtain ⟨j, rfl⟩ := Int.eq_ofNat_of_zero_le r0
  have hj : j < len := by omega
  have hc1 : w1.cell? ⟨s, so + j, none⟩ = some (.int .i64 (l.getD j 0)) := k1.cellv (hc j hj) ⟨hs, by simp; omega⟩
  have hm : l.getD j 0 ∈ l := by simp [List.getD, hl, hj]
  have hr1 := hr _ hm
  clear hc hr hl hm
  go_wp2
  go_ret
  exact ⟨_, rfl, hr1.1, hr1.2, k1, t1⟩


theorem pick_lit {B b n s : Nat} (lo hi : Int) (l : List Int) {A : Array Value} {W0 : World} (h : TP 52 B W0 b) (hB : B ≤ W0.heap.size) (hs : s = W0.heap.size) (hA : A = (l.map (Value.int .i64)).toArray) (hl : l.length = n) (hl0 : 0 < n) (hl2 : n ≤ 100)
    (hr : ∀ x ∈ l, lo ≤ x ∧ x ≤ hi) :
    Calls Tryz.prog 17 #[.pointer (some ⟨b, 0, none⟩), .slice (some ⟨s, 0, none⟩) n n] (W0.alloc (.cells A 3)) (SomeInt lo hi 52 B b W0) := by
  subst hA hs
  have hc := (Chg.refl (· < W0.heap.size) W0).alloc (.cells (l.map (Value.int .i64)).toArray 3) (fun k hk => hk)
  refine (pick_x (s := W0.heap.size) (so := 0) lo hi l _ (h.chg hc (by omega)) hB (by simp) hl hl0 hl2 ?_ hr).mono ?_
  · intro j hj
    simp [List.getD, hl, hj]
  · rintro e w' ⟨r, rfl, r0, r1, k1, t1⟩
    exact ⟨r, rfl, r0, r1, (hc.mono (fun k hk => hk.1)).trans (k1.mono (by simp; intro k h1 h2; omega)), t1⟩


def NewTape (w : World) (e : Ending) (w' : World) : Prop :=
  e = .returned (.pointer (some ⟨w.heap.size, 0, none⟩)) ∧ TP 52 (w.heap.size + 1) w' w.heap.size ∧ Chg (· < w.heap.size) w w'

theorem tape_made {S : Nat → Prop} {n cap m : Nat} {a : Option Addr} {l : List Int} {w : World} (h : Rd 1 encI S w a n l) (hS : ∀ k, S k → k < w.heap.size) (hm : m ≤ n) (hm2 : m ≤ 600) :
    TP 52 (w.heap.size + 1) (w.alloc (.cells #[.slice a m cap, .int .i64 0] 52)) w.heap.size := by
  have hl : (l.take m).length = m := by have := h.1; simp; omega
  rcases Nat.eq_zero_or_pos m with h0 | h0
  · subst h0
    exact ⟨a, cap, 0, 0, 0, [], by simpa using heap_new w _, by omega, by simp, by simp, .inl rfl⟩
  · obtain ⟨x, o, y, rfl, hx, _, _⟩ := h.at (j := 0) (by omega)
    have hx := hS x hx
    refine ⟨_, cap, 0, x, o, l.take m, by rw [hl]; exact heap_new w _, by omega, by omega, by omega, .inr ⟨rfl, by omega, by omega, fun j hj => ?_⟩⟩
    have hj : j < m := by omega
    obtain ⟨x', o', y', e1, _, e3, e4⟩ := h.at (j := j) (by omega)
    cases e1
    have e5 := e4 0 _ rfl
    have e6 : (l.take m).getD j 0 = y' := by simp [List.getD, List.getElem?_take, hj, e3]
    rw [e6]
    rw [World.cell?_of_block (w := w) (Below.heap_alloc w _ _ (by simp; omega))]
    simpa using e5

set_option maxHeartbeats 400000 in
theorem new_x {S : Nat → Prop} (a : Option Addr) (n cap : Nat) (l : List Int) (w : World) (h : Rd 1 encI S w a n l) (hS : ∀ k, S k → k < w.heap.size) (hn : n ≤ cap) (hcap : cap ≤ maxLen) :
    Calls Tryz.prog 7 #[.slice a n cap] w (NewTape w) := by
  unfold maxLen at hcap
  by_cases h6 : 600 < n
  · have hm := tape_made (cap := cap) (m := 600) h hS (by omega) (by omega)
    go_enter Tryz.func7, Tryz.ntmps7
    go_wp2
    go_ret
    exact ⟨rfl, hm, (Chg.refl _ _).alloc _ (by simp)⟩
  · have hm := tape_made (cap := cap) (m := n) h hS (by omega) (by omega)
    go_enter Tryz.func7, Tryz.ntmps7
    go_wp2
    go_ret
    exact ⟨rfl, hm, (Chg.refl _ _).alloc _ (by simp)⟩
end Go.Proofs.YtbnbjiddffihoaaGreatDoor

/- The tape, in the standard forms. -/
namespace Go.Proofs.YtbnbjiddffihoaaGreatDoor
open Go.RowKit

def TK (w : World) (b : Nat) : Prop := TP 52 (b + 1) w b
theorem TK.lt {w : World} {b : Nat} (h : TK w b) : b < w.heap.size := by
  obtain ⟨_, _, _, _, _, _, h1, _⟩ := h
  exact heap_lt h1
theorem TK.nx {w w' : World} {b : Nat} (h : TK w b) (k : Ex w w') : TK w' b := TP.chg h k (fun x hx => Nat.lt_of_lt_of_le hx h.lt)
theorem TK.set {w : World} {b : Nat} (h : TK w b) {p : Addr} (v : Value) (hp : b < p.block) : TK (w.setCell p v) b :=
  TP.chg h ((Chg.refl (· < b + 1) w).setCell v (fun k (hk : k < b + 1) => by omega)) (fun _ hk => hk)
def NumPost (n : Int) (b : Nat) (w : World) (e : Ending) (w' : World) : Prop :=
  ∃ r : Int, e = .returned (.int .i64 r) ∧ 0 ≤ r ∧ r ≤ n ∧ TK w' b ∧ Exb b w w'
theorem next_t {b : Nat} (n : Int) (w : World) (h : TK w b) (h1 : 1 ≤ n) (h2 : n ≤ 9223372036854775807) :
    Calls Tryz.prog 9 #[.pointer (some ⟨b, 0, none⟩), .int .i64 n] w (NumPost (n - 1) b w) := by
  refine (next_x n w h h2).mono ?_
  rintro e w' ⟨r, rfl, r0, r1, k, t⟩
  rw [if_neg (by omega)] at r1
  exact ⟨r, rfl, r0, r1, t, k⟩
theorem pick_t {b n s : Nat} (lo hi : Int) (l : List Int) {A : Array Value} {w : World} (h : TK w b) (hs : s = w.heap.size) (hA : A = (l.map (Value.int .i64)).toArray) (hl : l.length = n) (hl0 : 0 < n) (hl2 : n ≤ 100)
    (hr : ∀ x ∈ l, lo ≤ x ∧ x ≤ hi) :
    Calls Tryz.prog 17 #[.pointer (some ⟨b, 0, none⟩), .slice (some ⟨s, 0, none⟩) n n] (w.alloc (.cells A 3)) fun e w' =>
      ∃ r : Int, e = .returned (.int .i64 r) ∧ lo ≤ r ∧ r ≤ hi ∧ TK w' b ∧ Exb b w w' := by
  refine (pick_lit lo hi l h h.lt hs hA hl hl0 hl2 hr).mono ?_
  rintro e w' ⟨r, rfl, r0, r1, k, t⟩
  exact ⟨r, rfl, r0, r1, t, k⟩
theorem new_t (a : Option Addr) (n cap : Nat) (l : List Int) (w : World) (h : Sl 1 encI w a n l) (hn : n ≤ cap) (hcap : cap ≤ maxLen) :
    Calls Tryz.prog 7 #[.slice a n cap] w fun e w' => e = .returned (.pointer (some ⟨w.heap.size, 0, none⟩)) ∧ TK w' w.heap.size ∧ Ex w w' ∧ w.heap.size < w'.heap.size := by
  refine (new_x a n cap l w h (fun _ hk => hk) hn hcap).mono ?_
  rintro e w' ⟨rfl, t, k⟩
  have hlt : w.heap.size < w'.heap.size := by
    obtain ⟨_, _, _, _, _, _, h1, _⟩ := t
    exact heap_lt h1
  exact ⟨rfl, t, k, hlt⟩
end Go.Proofs.YtbnbjiddffihoaaGreatDoor

/- Keys of the tape. -/
namespace Go.Proofs.YtbnbjiddffihoaaGreatDoor
open Go.RowKit

def LetG (w : World) : Prop := ∀ j, j < 6 → ∃ s : ByteArray, s.size = 1 ∧ w.cell? ⟨0, j, none⟩ = some (.string s)
theorem LetG.lt {w : World} (h : LetG w) : 0 < w.heap.size := by
  obtain ⟨s, _, h⟩ := h 0 (by omega)
  exact World.block_lt_of_cell? w _ h
theorem LetG.nx {w w' : World} (h : LetG w) (k : Ex w w') : LetG w' := fun j hj => by
  obtain ⟨s, h1, h2⟩ := h j hj
  exact ⟨s, h1, Chg.cellv k h2 (World.block_lt_of_cell? w _ h2)⟩
theorem LetG.nxb {b : Nat} {w w' : World} (h : LetG w) (hb : ¬ 0 = b) (k : Exb b w w') : LetG w' := fun j hj => by
  obtain ⟨s, h1, h2⟩ := h j hj
  exact ⟨s, h1, Chg.cellv k h2 ⟨World.block_lt_of_cell? w _ h2, hb⟩⟩

def LongRel (k0 : Nat) (o i : Value) : Prop := ∃ (k : Nat) (s : ByteArray), k ≤ k0 ∧ i = .int .i64 k ∧ o = .string s ∧ s.size = k
set_option maxHeartbeats 400000 in
theorem long_x (s : ByteArray) (n : Nat) (w : World) (hs : s.size = 1) (hn : n ≤ 1000) :
    Calls Tryz.prog 66 #[.string s, .int .i64 n] w fun e w' => (∃ r : ByteArray, e = .returned (.string r) ∧ r.size = n) ∧ w = w' := by
  have HS := Lib.hid hs
  have hs1 : s.size ≤ 1 := Nat.le_of_eq hs
  clear hs
  go_enter Tryz.func66, Tryz.ntmps66
  go_wp2
  go_loop [5, 6] (fun o i => LongRel n o i) (fun _ i => n - (intOf i).toNat)
  case atStart => exact ⟨0, ⟨#[]⟩, by omega, rfl, rfl, rfl⟩
  case round =>
    obtain ⟨k, o, hk, rfl, rfl, ho⟩ := hrel
    have HO := Lib.hid ho
    have ho1 : o.size ≤ 1000 := by omega
    clear ho
    by_cases hlt : k < n
    · go_wp2
      go_round
      case rel => exact ⟨k + 1, _, by omega, by go_num, rfl, by rw [ByteArray.size_append, HO.out, HS.out]⟩
      case measure => simp [intOf]; omega
    · go_wp2
      go_ret
      exact ⟨⟨o, rfl, by rw [HO.out]; omega⟩, rfl⟩

def KeyPost (m b : Nat) (w : World) (e : Ending) (w' : World) : Prop := ∃ s : ByteArray, e = .returned (.string s) ∧ s.size ≤ m ∧ TK w' b ∧ Exb b w w'
def KeyRel (b : Nat) (w : World) (o i : Value) (wr : World) : Prop := ∃ (k : Nat) (s : ByteArray), k ≤ 3 ∧ i = .int .i64 k ∧ o = .string s ∧ s.size + k ≤ 3 ∧ TK wr b ∧ Exb b w wr

set_option maxHeartbeats 1000000 in
theorem key_t {b : Nat} (w : World) (h : TK w b) (hL : LetG w) (hgb : ¬ 0 = b) : Calls Tryz.prog 28 #[.pointer (some ⟨b, 0, none⟩)] w (KeyPost 64 b w) := by
  go_enter Tryz.func28, Tryz.ntmps28
  go_wp2_with fail
  refine (next_t 12 _ h (by omega) (by omega)).mono ?_
  rintro e w1 ⟨r, rfl, r0, r1, T, k1⟩
  have L1 := hL.nxb hgb k1
  clear h hL
  by_cases h10 : r = 10
  · subst h10
    go_wp2_with fail
    refine (next_t 6 _ T (by omega) (by omega)).mono ?_
    clear T
    rintro e w2 ⟨j, rfl, j0, j1, T, k2⟩
    obtain ⟨j, rfl⟩ := Int.eq_ofNat_of_zero_le j0
    obtain ⟨s, hs, hc⟩ := (L1.nxb hgb k2) j (by omega)
    have kk := k1.nxb k2
    have HS := Lib.hid hs
    clear hs k1 k2 L1
    go_wp2_with fail
    refine (long_x s 64 _ HS.out (by omega)).mono ?_
    rintro e w3 ⟨⟨r, rfl, hr⟩, rfl⟩
    have HR := Lib.hid hr
    clear hr
    go_wp2_with fail
    go_ret
    exact ⟨r, rfl, Nat.le_of_eq HR.out, T, kk⟩
  · have d10 : (r == 10) = false := by simp [h10]
    by_cases h11 : r = 11
    · subst h11
      clear h10
      go_wp2_with fail
      go_ret
      exact ⟨⟨#[]⟩, rfl, by simp [ByteArray.size], T, k1⟩
    · have d11 : (r == 11) = false := by simp [h11]
      clear h10 h11
      go_wp2_with fail
      refine (next_t 3 _ T (by omega) (by omega)).mono ?_
      clear T
      rintro e w2 ⟨m, rfl, m0, m1, T, k2⟩
      obtain ⟨m, rfl⟩ := Int.eq_ofNat_of_zero_le m0
      have L2 := L1.nxb hgb k2
      have kk := k1.nxb k2
      clear k1 k2 L1
      go_wp2_with fail
      go_loopw [3, 4] (fun o i wr => KeyRel b w2 o i wr) (fun _ i _ => (intOf i).toNat)
      case atStart => exact ⟨m + 1, ⟨#[]⟩, by omega, congrArg (Value.int .i64) (by omega), rfl, by show 0 + (m + 1) ≤ 3; omega, T, Exb.refl _ _⟩
      case round =>
        clear T
        obtain ⟨k, o, hk, rfl, rfl, ho, T, kw⟩ := hrel
        obtain ⟨wo, rfl⟩ : ∃ wo : World, wo = wr := ⟨_, rfl⟩
        have ho1 : o.size ≤ 3 := by omega
        by_cases hk0 : 0 < k
        · go_wp2_with fail
          refine (next_t 6 _ T (by omega) (by omega)).mono ?_
          clear T
          rintro e w4 ⟨j, rfl, j0, j1, T, k4⟩
          obtain ⟨j, rfl⟩ := Int.eq_ofNat_of_zero_le j0
          obtain ⟨s, hs, hc⟩ := ((L2.nxb hgb kw).nxb hgb k4) j (by omega)
          replace kw := kw.nxb k4
          have HS := Lib.hid hs
          have hs1 : s.size ≤ 1 := Nat.le_of_eq hs
          clear hs k4 L2
          go_wp2_with fail
          refine ⟨⟨k - 1, o ++ s, by omega, ?_, rfl, by rw [ByteArray.size_append, HS.out]; omega, T, kw⟩, by simp [intOf]; omega⟩
          rw [show ((k - 1 : Nat) : Int) = (k : Int) - 1 by omega]
        · clear L2
          go_wp2_with fail
          go_ret
          exact ⟨o, rfl, by omega, T, kk.nxb kw⟩
end Go.Proofs.YtbnbjiddffihoaaGreatDoor

/- A walk over the words that are drawn from a tape. -/
namespace Go.Proofs.YtbnbjiddffihoaaGreatDoor
open Go.RowKit

def SomeWord (ty B b : Nat) (w : World) (e : Ending) (w' : World) : Prop :=
  ∃ r : Nat, e = .returned (.int .u32 r) ∧ r < 65536 ∧ Chg (fun k => k < w.heap.size ∧ k ≠ b) w w' ∧ TP ty B w' b

theorem conv_u32 (r : Int) (h0 : 0 ≤ r) (h1 : r < 65536) : ∃ m : Nat, r = m ∧ m < 65536 ∧ IntKind.u32.wrap r = (m : Int) := by
  obtain ⟨m, rfl⟩ := Int.eq_ofNat_of_zero_le h0
  refine ⟨m, rfl, by omega, ?_⟩
  simp [IntKind.wrap, IntKind.signed, IntKind.bits]
  omega

set_option maxHeartbeats 1000000 in
theorem word_x {B b : Nat} (w : World) (h : TP 52 B w b) (hB : B ≤ w.heap.size) :
    Calls Tryz.prog 29 #[.pointer (some ⟨b, 0, none⟩)] w (SomeWord 52 B b w) := by
  go_enter Tryz.func29, Tryz.ntmps29
  go_wp2_with fail
  refine (next_x _ w h (by omega)).mono ?_
  rintro e w1 ⟨r, rfl, r0, r1, k1, t1⟩
  have z1 := k1.size
  by_cases e4 : r = 4
  · subst e4
    go_wp2_with fail
    refine (next_x _ _ t1 (by omega)).mono ?_
    rintro e w2 ⟨s, rfl, s0, s1, k2, t2⟩
    rw [if_neg (by omega)] at s1
    obtain ⟨m, rfl, hm, hw⟩ := conv_u32 s s0 (by omega)
    go_wp2_with fail
    go_ret
    exact ⟨m, rfl, hm, k1.then k2 (by intro k hk; omega), t2⟩
  · have d4 : (r == 4) = false := by simp [e4]
    by_cases e5 : r = 5
    · subst e5
      go_wp2_with fail
      refine (pick_lit 0 65535 [0, 65535, 32768] t1 (by omega) (by simp) (by rfl) (by rfl) (by omega) (by omega) (by simp)).mono ?_
      rintro e w2 ⟨s, rfl, s0, s1, k2, t2⟩
      obtain ⟨m, rfl, hm, hw⟩ := conv_u32 s s0 (by omega)
      go_wp2_with fail
      go_ret
      exact ⟨m, rfl, hm, k1.then k2 (by intro k hk; omega), t2⟩
    · have d5 : (r == 5) = false := by simp [e5]
      clear e4 e5
      go_wp2_with fail
      refine (next_x _ _ t1 (by omega)).mono ?_
      rintro e w2 ⟨s, rfl, s0, s1, k2, t2⟩
      rw [if_neg (by omega)] at s1
      obtain ⟨m, rfl, hm, hw⟩ := conv_u32 s s0 (by omega)
      go_wp2_with fail
      go_ret
      exact ⟨m, rfl, hm, k1.then k2 (by intro k hk; omega), t2⟩
end Go.Proofs.YtbnbjiddffihoaaGreatDoor

/- Rosters of the tape. -/
namespace Go.Proofs.YtbnbjiddffihoaaGreatDoor
open Go.RowKit

theorem word_t {b : Nat} (w : World) (h : TK w b) : Calls Tryz.prog 29 #[.pointer (some ⟨b, 0, none⟩)] w fun e w' => ∃ m : Nat, e = .returned (.int .u32 m) ∧ m < 65536 ∧ TK w' b ∧ Exb b w w' :=
  (word_x w h h.lt).mono fun e w' ⟨m, he, hm, k, t⟩ => ⟨m, he, hm, t, k⟩

structure RosterOf (n b : Nat) (w w' : World) (v : Value) (L : List Nd) : Prop where
  own : OwnL 3 encN 57 w.heap.size w' v L
  len : L.length ≤ n
  ok : checkN L = 0
  word : ∀ x ∈ L, x.word < 65536
  tape : TK w' b
  k : Exb b w w'
def RosRel (n b : Nat) (w : World) (o i : Value) (wr : World) : Prop := ∃ (k : Nat) (L : List Nd), L.length + k ≤ n ∧ i = .int .i64 k ∧ RosterOf n b w wr o L

set_option maxRecDepth 100000 in
set_option maxHeartbeats 2000000 in
theorem roster_t {b : Nat} (n : Nat) (w : World) (h : TK w b) (hL : LetG w) (hgb : ¬ 0 = b) (hn0 : 1 ≤ n) (hn : n ≤ 60) :
    Calls Tryz.prog 8 #[.pointer (some ⟨b, 0, none⟩), .int .i64 n] w fun e w' => ∃ v L, e = .returned v ∧ RosterOf n b w w' v L := by
  have hbw := h.lt
  go_enter Tryz.func8, Tryz.ntmps8
  go_wp2_with fail
  refine (next_t ((n : Int) + 1) _ h (by omega) (by omega)).mono ?_
  clear h
  rintro e w1 ⟨k, rfl, k0, k1, T, kk⟩
  obtain ⟨k, rfl⟩ := Int.eq_ofNat_of_zero_le k0
  go_wp2_with fail
  go_loopw [5, 6] (fun o i wr => RosRel n b w o i wr) (fun _ i _ => (intOf i).toNat)
  case atStart => exact ⟨k, [], by simp; omega, rfl, OwnL.nil _ _ _ _ _, by simp, by decide, by simp, T, kk⟩
  case round =>
    clear T kk
    obtain ⟨q, L, hq, rfl, R⟩ := hrel
    obtain ⟨wo, rfl⟩ : ∃ wo : World, wo = wr := ⟨_, rfl⟩
    have T := R.tape
    by_cases hq0 : 0 < q
    · have L1 := hL.nxb hgb R.k
      clear hL
      have R := Lib.hid R
      go_wp2_with fail
      refine (next_t (3 * (n : Int)) _ T (by omega) (by omega)).mono ?_
      clear T
      rintro e w2 ⟨d, rfl, d0, d1, T, k2⟩
      have L2 := L1.nxb hgb k2
      clear L1
      go_wp2_with fail
      refine (key_t _ T L2 hgb).mono ?_
      clear T
      rintro e w3 ⟨s, rfl, hs, T, k3⟩
      replace k2 := k2.nxb k3
      clear L2 k3
      go_wp2_with fail
      refine (word_t _ T).mono ?_
      clear T
      rintro e w4 ⟨m, rfl, hm, T, k4⟩
      replace k2 := k2.nxb k4
      clear k4
      have B4 := Blk.new w4 [.int .i64 (1 + d), .string s, .int .u32 m] 57
      have e4 := Ex.new w4 (.cells #[.int .i64 (1 + d), .string s, .int .u32 m] 57)
      obtain ⟨w5, hw5⟩ : ∃ w5, w5 = w4.alloc (.cells #[.int .i64 (1 + d), .string s, .int .u32 m] 57) := ⟨_, rfl⟩
      obtain ⟨g, hg⟩ : ∃ g, g = w4.heap.size := ⟨_, rfl⟩
      have B4 : Blk w5 g [.int .i64 (1 + d), .string s, .int .u32 m] 57 := by rw [hw5, hg]; exact B4
      rw [← hw5] at e4
      replace T := T.nx e4
      replace k2 := k2.nxb (e4.b b)
      have HW := Lib.hid hw5
      have HG := Lib.hid hg
      clear hw5 hg e4
      go_wp2_with fail
      rw [← HG.out, ← HW.out]
      have own5 := R.out.own.nxb hbw k2
      obtain ⟨A5, C5, rfl, s5, o5, m5, nil5⟩ := own5.slf (fun _ => rfl)
      have lenL : L.length ≤ 60 := by omega
      have NIL := Lib.hid nil5
      have O5 := Lib.hid own5
      have S5 : Sl 3 encN w5 A5 L.length L := s5.sl
      clear s5 nil5 own5
      obtain ⟨X, hX⟩ : ∃ X : Nd, X = ⟨1 + d, s, m⟩ := ⟨_, rfl⟩
      have SXF : ∀ cur, Ex w5 cur → Sl 3 encN (cur.alloc (.cells #[.int .i64 (1 + d), .string s, .int .u32 m] 57)) (some ⟨cur.heap.size, 0, none⟩) 1 [X] := fun cur _ => by rw [hX]; exact Sl.lit _ rfl rfl (fun _ => rfl) rfl
      have OWN0 : ∀ cur, Ex w5 cur → OwnL 3 encN 57 w5.heap.size cur (.slice none 0 0) [] := fun _ _ => OwnL.nil _ _ _ _ _
      have HX := Lib.hid hX
      have S5F := fun cur (h : Ex w5 cur) => S5.nx h
      have hX3 : m < 65536 := hm
      clear hX S5 hm d0 d1 hs
      refine wp_region_held_drew (S := Ex w5) (by kernel_rfl) ((Ex.refl w5).drew) (fun hHeld => ?_)
      refine wpAnyH_take (i := 0) (oi := ⟨some 26, .move (.tmp 5), 23, "tape.go:132", #[], none⟩) (v := ?_) rfl (by kernel_rfl) (by kernel_rfl) (by kernel_rfl) (fun _ _ _ h => h) (Or.inl ⟨by rfl, ?hyr1x0q1⟩) (by assumption) ?restr1x0q1
      case hyr1x0q1 => intro wq hSw; (go_simp); (try with_reducible rfl)
      try simp only [Act.put, List.setIfInBounds_toArray, List.set_cons_zero, List.set_cons_succ]
      refine wpAnyH_take (i := 2) (oi := ⟨some 28, .load 57 (.tmp 7), 57, "tape.go:132", #[], none⟩) (v := ?_) rfl (by kernel_rfl) (by kernel_rfl) (by kernel_rfl) (fun _ _ _ h => h) (Or.inl ⟨by rfl, ?hyr1x2q4⟩) (by assumption) ?restr1x2q4
      case hyr1x2q4 => intro wq hSw; (have cq := (B4.nx hSw).cell 0 _ rfl; have cq1 := (B4.nx hSw).cell 1 _ rfl; have cq2 := (B4.nx hSw).cell 2 _ rfl; go_simp); (try with_reducible rfl)
      try simp only [Act.put, List.setIfInBounds_toArray, List.set_cons_zero, List.set_cons_succ]
      refine wpAnyH_ready (rs := [1, 3]) (by kernel_rfl) (by simp) ?_
      refine AllReadyH.cons (o := ⟨some 27, .call { callee := .builtin .append, args := #[.const (.slice none 0 0), .tmp 26], argTypes := #[23, 23] }, 23, "tape.go:132", #[⟨0, .data⟩], none⟩) rfl (fun K hK => ?_) ?_
      · rw [if_pos (by rfl)]
        have own0 := OWN0 _ hHeld
        have s0 := S5F _ hHeld
        have z0 := Ex.size hHeld
        refine wp_append_rd (enc := encN) _ (.const (.slice none 0 0)) (.tmp 26) 23 rfl w5.heap.size 57 (.agg #[.int .i64 0, .string ByteArray.empty, .int .u32 0]) 3 32 Tryz.underlying23 Tryz.infoN rfl (by omega) (by omega) _ [] own0 rfl _ A5 L.length C5 L s0 NIL.out (fun _ => rfl) (by simp [encN, Value.oneCell']) rfl (by simp) (by omega) z0 ?_
        intro v6 w6 own6 ch0 ch1
        have j6 : Ex w5 w6 := Chg.trans hHeld ch1
        (try replace SX := SX.nx (Chg.mono ch0 (fun k hk => ⟨hk, by simp [Value.ownBlock]⟩)))
        clear own0 s0 z0 ch0 ch1
        refine hK.out _ _ (j6) (fun hHeld => ?_)
        clear hK K
        try simp only [Act.put, List.setIfInBounds_toArray, List.set_cons_zero, List.set_cons_succ]
        refine wpAnyH_ready (rs := [3]) (by kernel_rfl) (by simp) ?_
        refine AllReadyH.cons (o := ⟨some 29, .buildSlice 23 1 #[(0, .tmp 28)], 23, "tape.go:132", #[⟨2, .data⟩], none⟩) rfl (fun K hK => ?_) AllReadyH.nil
        go_simp
        have SX := SXF _ hHeld
        have j6 := hHeld.alloc (.cells #[.int .i64 (1 + d), .string s, .int .u32 m] 57)
        (try replace own6 := own6.alloc (.cells #[.int .i64 (1 + d), .string s, .int .u32 m] 57))
        refine hK.out _ _ (j6) (fun hHeld => ?_)
        clear hK K
        try simp only [Act.put, List.setIfInBounds_toArray, List.set_cons_zero, List.set_cons_succ]
        refine wpAnyH_ready (rs := [4]) (by kernel_rfl) (by simp) ?_
        refine AllReadyH.cons (o := ⟨some 30, .call { callee := .builtin .append, args := #[.tmp 27, .tmp 29], argTypes := #[23, 23] }, 23, "tape.go:132", #[⟨1, .data⟩, ⟨3, .data⟩, ⟨1, .chain⟩], none⟩) rfl (fun K hK => ?_) AllReadyH.nil
        rw [if_pos (by rfl)]
        have z0 := Ex.size hHeld
        refine wp_append_rd (enc := encN) _ (.tmp 27) (.tmp 29) 23 rfl w5.heap.size 57 (.agg #[.int .i64 0, .string ByteArray.empty, .int .u32 0]) 3 32 Tryz.underlying23 Tryz.infoN rfl (by omega) (by omega) _ ([] ++ L) own6 rfl _ _ 1 1 [X] SX (fun h => by cases h) (fun _ => rfl) (by simp [encN, Value.oneCell']) rfl (by rw [List.nil_append]; omega) (by omega) z0 ?_
        intro v7 w7 own7 ch0 ch1
        have j7 : Ex w5 w7 := Chg.trans hHeld ch1
        rw [List.nil_append] at own7
        obtain ⟨L7, h7⟩ : ∃ L7, L7 = L ++ [X] := ⟨_, rfl⟩
        rw [← h7] at own7
        have l7 : L7.length ≤ 61 := by rw [h7, List.length_append, List.length_singleton]; omega
        have H7 := Lib.hid h7
        clear h7
        obtain ⟨A7, C7, rfl, s7, _, _, _⟩ := own7.slf (fun _ => rfl)
        have s7 := s7.sl
        clear own7 own6 SX z0 ch0 ch1
        refine hK.out _ _ (j7) (fun hHeld => ?_)
        clear hK K
        try simp only [Act.put, List.setIfInBounds_toArray, List.set_cons_zero, List.set_cons_succ]
        refine wpAnyH_ready (rs := [5]) (by kernel_rfl) (by simp) ?_
        refine AllReadyH.cons (o := ⟨some 31, .call { callee := .value (.func 30), args := #[.tmp 30], argTypes := #[23] }, 4, "tape.go:132", #[⟨4, .data⟩, ⟨4, .chain⟩], none⟩) rfl (fun K hK => ?_) AllReadyH.nil
        go_simp
        (with_reducible refine (is_r _ _ _ _ _ s7 (by omega)).mono ?_)
        rintro e w8 ⟨rfl, kk⟩
        have j8 := hHeld.nx kk
        clear kk s7
        refine hK.out _ _ (j8) (fun hHeld => ?_)
        clear hK K
        try simp only [Act.put, List.setIfInBounds_toArray, List.set_cons_zero, List.set_cons_succ]
        refine wpAnyH_done (by kernel_rfl) ?_ _
        replace T := T.nx hHeld
        have own8 := O5.out.nx hHeld
        have B8 := B4.nx hHeld
        have k8 := k2.nxb (hHeld.b b)
        have c0 := B8.cell 0 _ rfl
        have c1 := B8.cell 1 _ rfl
        have c2 := B8.cell 2 _ rfl
        have k9 := R.out.k.nxb k8
        have z8 := k9.size
        clear hHeld B8 B4 SXF OWN0 S5F j6 j7 j8 s7 k8 l7
        cases hc : (checkN L7 == 0) with
        | true =>
          have HCK : Hid (checkN (L ++ [X]) = 0) := Lib.hid (by rw [← H7.out]; simpa using hc)
          clear hc
          go_wp2_with (at_builtin; (refine wpList_append_lit (enc := encN) w8 rfl _ _ 23 rfl w.heap.size 57 (.agg #[.int .i64 0, .string ByteArray.empty, .int .u32 0]) 3 32 Tryz.underlying23 Tryz.infoN rfl (by omega) (by omega) _ _ own8 rfl X _ (by rw [HX.out]; rfl) rfl (by simp [encN, Value.oneCell']) _ (by simp) rfl (by omega) (by omega) _ ?_); intro v9 w9 own9 _ ch1 _)
          refine ⟨⟨q - 1, L ++ [X], by simp; omega, by rw [show ((q - 1 : Nat) : Int) = (q : Int) - 1 by omega], own9, by simp; omega, HCK.out, ?_, TP.chg T ch1 (fun x hx => by omega), Chg.trans k9 (ch1.mono (fun x hx => hx.1))⟩, by simp [intOf]; omega⟩
          intro x hx
          rcases List.mem_append.1 hx with hx | hx
          · exact R.out.word x hx
          · rw [List.mem_singleton.1 hx, HX.out]; exact hX3
        | false =>
          clear hc
          go_wp2_with fail
          exact ⟨⟨q - 1, L, by omega, by rw [show ((q - 1 : Nat) : Int) = (q : Int) - 1 by omega], own8, by omega, R.out.ok, R.out.word, T, k9⟩, by simp [intOf]; omega⟩
      refine AllReadyH.cons (o := ⟨some 29, .buildSlice 23 1 #[(0, .tmp 28)], 23, "tape.go:132", #[⟨2, .data⟩], none⟩) rfl (fun K hK => ?_) AllReadyH.nil
      · go_simp
        have SX := SXF _ hHeld
        have j6 := hHeld.alloc (.cells #[.int .i64 (1 + d), .string s, .int .u32 m] 57)
        (try replace own6 := own6.alloc (.cells #[.int .i64 (1 + d), .string s, .int .u32 m] 57))
        refine hK.out _ _ (j6) (fun hHeld => ?_)
        clear hK K
        try simp only [Act.put, List.setIfInBounds_toArray, List.set_cons_zero, List.set_cons_succ]
        refine wpAnyH_ready (rs := [1]) (by kernel_rfl) (by simp) ?_
        refine AllReadyH.cons (o := ⟨some 27, .call { callee := .builtin .append, args := #[.const (.slice none 0 0), .tmp 26], argTypes := #[23, 23] }, 23, "tape.go:132", #[⟨0, .data⟩], none⟩) rfl (fun K hK => ?_) AllReadyH.nil
        rw [if_pos (by rfl)]
        have own0 := OWN0 _ hHeld
        have s0 := S5F _ hHeld
        have z0 := Ex.size hHeld
        refine wp_append_rd (enc := encN) _ (.const (.slice none 0 0)) (.tmp 26) 23 rfl w5.heap.size 57 (.agg #[.int .i64 0, .string ByteArray.empty, .int .u32 0]) 3 32 Tryz.underlying23 Tryz.infoN rfl (by omega) (by omega) _ [] own0 rfl _ A5 L.length C5 L s0 NIL.out (fun _ => rfl) (by simp [encN, Value.oneCell']) rfl (by simp) (by omega) z0 ?_
        intro v6 w6 own6 ch0 ch1
        have j6 : Ex w5 w6 := Chg.trans hHeld ch1
        (try replace SX := SX.nx (Chg.mono ch0 (fun k hk => ⟨hk, by simp [Value.ownBlock]⟩)))
        clear own0 s0 z0 ch0 ch1
        refine hK.out _ _ (j6) (fun hHeld => ?_)
        clear hK K
        try simp only [Act.put, List.setIfInBounds_toArray, List.set_cons_zero, List.set_cons_succ]
        refine wpAnyH_ready (rs := [4]) (by kernel_rfl) (by simp) ?_
        refine AllReadyH.cons (o := ⟨some 30, .call { callee := .builtin .append, args := #[.tmp 27, .tmp 29], argTypes := #[23, 23] }, 23, "tape.go:132", #[⟨1, .data⟩, ⟨3, .data⟩, ⟨1, .chain⟩], none⟩) rfl (fun K hK => ?_) AllReadyH.nil
        rw [if_pos (by rfl)]
        have z0 := Ex.size hHeld
        refine wp_append_rd (enc := encN) _ (.tmp 27) (.tmp 29) 23 rfl w5.heap.size 57 (.agg #[.int .i64 0, .string ByteArray.empty, .int .u32 0]) 3 32 Tryz.underlying23 Tryz.infoN rfl (by omega) (by omega) _ ([] ++ L) own6 rfl _ _ 1 1 [X] SX (fun h => by cases h) (fun _ => rfl) (by simp [encN, Value.oneCell']) rfl (by rw [List.nil_append]; omega) (by omega) z0 ?_
        intro v7 w7 own7 ch0 ch1
        have j7 : Ex w5 w7 := Chg.trans hHeld ch1
        rw [List.nil_append] at own7
        obtain ⟨L7, h7⟩ : ∃ L7, L7 = L ++ [X] := ⟨_, rfl⟩
        rw [← h7] at own7
        have l7 : L7.length ≤ 61 := by rw [h7, List.length_append, List.length_singleton]; omega
        have H7 := Lib.hid h7
        clear h7
        obtain ⟨A7, C7, rfl, s7, _, _, _⟩ := own7.slf (fun _ => rfl)
        have s7 := s7.sl
        clear own7 own6 SX z0 ch0 ch1
        refine hK.out _ _ (j7) (fun hHeld => ?_)
        clear hK K
        try simp only [Act.put, List.setIfInBounds_toArray, List.set_cons_zero, List.set_cons_succ]
        refine wpAnyH_ready (rs := [5]) (by kernel_rfl) (by simp) ?_
        refine AllReadyH.cons (o := ⟨some 31, .call { callee := .value (.func 30), args := #[.tmp 30], argTypes := #[23] }, 4, "tape.go:132", #[⟨4, .data⟩, ⟨4, .chain⟩], none⟩) rfl (fun K hK => ?_) AllReadyH.nil
        go_simp
        (with_reducible refine (is_r _ _ _ _ _ s7 (by omega)).mono ?_)
        rintro e w8 ⟨rfl, kk⟩
        have j8 := hHeld.nx kk
        clear kk s7
        refine hK.out _ _ (j8) (fun hHeld => ?_)
        clear hK K
        try simp only [Act.put, List.setIfInBounds_toArray, List.set_cons_zero, List.set_cons_succ]
        refine wpAnyH_done (by kernel_rfl) ?_ _
        replace T := T.nx hHeld
        have own8 := O5.out.nx hHeld
        have B8 := B4.nx hHeld
        have k8 := k2.nxb (hHeld.b b)
        have c0 := B8.cell 0 _ rfl
        have c1 := B8.cell 1 _ rfl
        have c2 := B8.cell 2 _ rfl
        have k9 := R.out.k.nxb k8
        have z8 := k9.size
        clear hHeld B8 B4 SXF OWN0 S5F j6 j7 j8 s7 k8 l7
        cases hc : (checkN L7 == 0) with
        | true =>
          have HCK : Hid (checkN (L ++ [X]) = 0) := Lib.hid (by rw [← H7.out]; simpa using hc)
          clear hc
          go_wp2_with (at_builtin; (refine wpList_append_lit (enc := encN) w8 rfl _ _ 23 rfl w.heap.size 57 (.agg #[.int .i64 0, .string ByteArray.empty, .int .u32 0]) 3 32 Tryz.underlying23 Tryz.infoN rfl (by omega) (by omega) _ _ own8 rfl X _ (by rw [HX.out]; rfl) rfl (by simp [encN, Value.oneCell']) _ (by simp) rfl (by omega) (by omega) _ ?_); intro v9 w9 own9 _ ch1 _)
          refine ⟨⟨q - 1, L ++ [X], by simp; omega, by rw [show ((q - 1 : Nat) : Int) = (q : Int) - 1 by omega], own9, by simp; omega, HCK.out, ?_, TP.chg T ch1 (fun x hx => by omega), Chg.trans k9 (ch1.mono (fun x hx => hx.1))⟩, by simp [intOf]; omega⟩
          intro x hx
          rcases List.mem_append.1 hx with hx | hx
          · exact R.out.word x hx
          · rw [List.mem_singleton.1 hx, HX.out]; exact hX3
        | false =>
          clear hc
          go_wp2_with fail
          exact ⟨⟨q - 1, L, by omega, by rw [show ((q - 1 : Nat) : Int) = (q : Int) - 1 by omega], own8, by omega, R.out.ok, R.out.word, T, k9⟩, by simp [intOf]; omega⟩
    · clear hL T
      go_wp2_with fail
      go_ret
      exact ⟨_, L, rfl, R⟩
end Go.Proofs.YtbnbjiddffihoaaGreatDoor

/- Bool of the tape, in the standard forms. -/
namespace Go.Proofs.YtbnbjiddffihoaaGreatDoor
open Go.RowKit
set_option maxHeartbeats 400000 in
theorem bool_t {b : Nat} (n : Int) (w : World) (h : TK w b) (h1 : 1 ≤ n) (h2 : n ≤ 1000000) :
    Calls Tryz.prog 11 #[.pointer (some ⟨b, 0, none⟩), .int .i64 n] w fun e w' => ∃ r : Bool, e = .returned (.bool r) ∧ TK w' b ∧ Exb b w w' := by
  go_enter Tryz.func11, Tryz.ntmps11
  go_wp2_with fail
  refine (next_t n _ h h1 (by omega)).mono ?_
  rintro e w1 ⟨r, rfl, r0, r1, t1, k1⟩
  go_wp2_with fail
  go_ret
  exact ⟨_, rfl, t1, k1⟩
end Go.Proofs.YtbnbjiddffihoaaGreatDoor

/- Numbers, keys, heights of the tape. -/
namespace Go.Proofs.YtbnbjiddffihoaaGreatDoor
open Go.RowKit

def I64 (x : Int) : Prop := -9223372036854775808 ≤ x ∧ x ≤ 9223372036854775807
set_option maxHeartbeats 1000000 in
theorem id_t {b : Nat} (a : Option Addr) (n cp : Nat) (l : List Nd) (w : World) (h : TK w b) (hs : Slb 3 encN b w a n l) (hn : n ≤ 1000) (hi : ∀ x ∈ l, I64 x.id) :
    Calls Tryz.prog 68 #[.pointer (some ⟨b, 0, none⟩), .slice a n cp] w fun e w' => ∃ r : Int, e = .returned (.int .i64 r) ∧ I64 r ∧ TK w' b ∧ Exb b w w' := by
  have HI := Lib.hid hi
  have hlen := Lib.hid hs.len
  clear hi
  go_enter Tryz.func68, Tryz.ntmps68
  by_cases hn0 : n = 0
  · have d0 : ((n : Int) == 0) = true := by simp; omega
    clear hs
    go_wp2_with fail
    refine (pick_t (n := 5) (-1) 4611686018427387904 [0, -1, 999, 4611686018427387904, 1] h rfl rfl rfl (by omega) (by omega) (by intro x hx; simp at hx; omega)).mono ?_
    clear h
    rintro e w2 ⟨r, rfl, r0, r1, T, kk⟩
    go_wp2_with fail
    go_ret
    exact ⟨r, rfl, ⟨by omega, by omega⟩, T, kk⟩
  · have d0 : ((n : Int) == 0) = false := by simp; omega
    have hnp : 0 < n := by omega
    clear hn0
    go_wp2_with fail
    refine (bool_t 8 _ h (by omega) (by omega)).mono ?_
    clear h
    rintro e w1 ⟨r, rfl, T, kk⟩
    cases r with
    | true =>
      clear hs
      go_wp2_with fail
      refine (pick_t (n := 5) (-1) 4611686018427387904 [0, -1, 999, 4611686018427387904, 1] T rfl rfl rfl (by omega) (by omega) (by intro x hx; simp at hx; omega)).mono ?_
      clear T
      rintro e w2 ⟨r, rfl, r0, r1, T, k2⟩
      have kk := kk.nxb k2
      clear k2
      go_wp2_with fail
      go_ret
      exact ⟨r, rfl, ⟨by omega, by omega⟩, T, kk⟩
    | false =>
      have S1 := hs.nxb kk
      clear hs
      go_wp2_with fail
      refine (next_t (n : Int) _ T (by omega) (by omega)).mono ?_
      clear T
      rintro e w2 ⟨j, rfl, j0, j1, T, k2⟩
      obtain ⟨j, rfl⟩ := Int.eq_ofNat_of_zero_le j0
      have S2 := S1.nxb k2
      have kk := kk.nxb k2
      obtain ⟨x, o, y, rfl, hx, hy, hc⟩ := S2.sl.at (j := j) (by omega)
      have e0 : w2.cell? ⟨x, o + j * 3, none⟩ = some (.int .i64 y.id) := hc 0 _ rfl
      have hyi := Lib.hid (HI.out y (List.mem_of_getElem? hy))
      have hjn : (j : Int) < (n : Int) := by omega
      clear k2 S1 S2 hc hy
      go_wp2_with fail
      go_ret
      exact ⟨y.id, rfl, hyi.out, T, kk⟩

end Go.Proofs.YtbnbjiddffihoaaGreatDoor

/- OddRoster of the tape. -/
namespace Go.Proofs.YtbnbjiddffihoaaGreatDoor
open Go.RowKit

theorem flat_set1 {α : Type} {sz : Nat} {enc : α → List Value} (hsz : ∀ y, (enc y).length = sz) {c : Nat} (hc : c < sz) {y' : α} {v : Value} :
    ∀ (L : List α) (j : Nat) (y : α), L[j]? = some y → enc y' = (enc y).set c v → (L.set j y').flatMap enc = (L.flatMap enc).set (j * sz + c) v
  | [], j, y, h, _ => by simp at h
  | z :: r, 0, y, h, hv => by
    simp at h; subst h
    rw [List.set_cons_zero, List.flatMap_cons, List.flatMap_cons, hv, Nat.zero_mul, Nat.zero_add, List.set_append_left _ _ (by rw [hsz]; exact hc)]
  | z :: r, j + 1, y, h, hv => by
    rw [List.set_cons_succ, List.flatMap_cons, List.flatMap_cons, flat_set1 hsz hc r j y (by simpa using h) hv, List.set_append_right _ _ (by rw [hsz, Nat.succ_mul]; omega), hsz]
    congr 2
    rw [Nat.succ_mul]; omega
theorem own_set1 {α : Type} {sz : Nat} {enc : α → List Value} (hsz : ∀ y, (enc y).length = sz) {e : TypeId} {base : Nat} {w : World} {g n cap j c : Nat} {L : List α} {y : α} (h : OwnL sz enc e base w (.slice (some ⟨g, 0, none⟩) n cap) L)
    (hy : L[j]? = some y) (hc : c < sz) : w.cell? ⟨g, j * sz + c, none⟩ = (enc y)[c]? ∧ w.frozen? ⟨g, j * sz + c, none⟩ = false ∧
      ∀ (y' : α) (v : Value), enc y' = (enc y).set c v → OwnL sz enc e base (w.setCell ⟨g, j * sz + c, none⟩ v) (.slice (some ⟨g, 0, none⟩) n cap) (L.set j y') := by
  rcases h.2 with ⟨h1, _⟩ | ⟨g', cap', cur, e1, e2, e3, e4, e5, e6, e7⟩
  · cases h1
  · obtain ⟨rfl, hLn, rfl⟩ : g = g' ∧ n = L.length ∧ cap = cap' := by simpa using e1
    have hjl := (List.getElem?_eq_some_iff.1 hy).1
    have hlt : j * sz + c < L.length * sz := by
      have : (j + 1) * sz ≤ L.length * sz := Nat.mul_le_mul_right _ hjl
      rw [Nat.succ_mul] at this; omega
    refine ⟨?_, by simp [World.frozen?, e3], fun y' v hv => ⟨?_, .inr ⟨g, cap, _, by simp [hLn], e2, heap_set e3 _ v, by simpa using e4, e5, by simpa using e6, ?_⟩⟩⟩
    · have h2 : (cur.toList.take (L.length * sz))[j * sz + c]? = (enc y)[c]? := by
        rw [e7]
        have hcy : c < (enc y).length := by rw [hsz]; exact hc
        rw [List.getElem?_eq_getElem hcy]
        exact flat_at hsz L j y hy c _ (List.getElem?_eq_getElem hcy)
      rw [List.getElem?_take, if_pos hlt] at h2
      simpa [World.cell?, e3] using h2
    · rw [flatN_len hsz]
    · rw [flat_set1 hsz hc L j y hy hv, ← e7, List.length_set]
      simp only [Array.toList_setIfInBounds, List.take_set]

def NOk (x : Nd) : Prop := I64 x.id ∧ x.word < 4294967296 ∧ x.key.size ≤ 65
theorem roster_ok {l : List Nd} (h : checkN l = 0) : ∀ x ∈ l, NOk x ∧ 1 ≤ x.id ∧ x.id ≤ 2147483647 ∧ x.key.size ≤ 64 ∧ x.word < 65536 := by
  intro x hx
  have hb : badN x = false := by
    cases hb : badN x with
    | false => rfl
    | true =>
      exfalso
      unfold checkN at h
      have : l.any badN = true := List.any_eq_true.2 ⟨x, hx, hb⟩
      rw [this] at h
      split at h <;> simp at h
  unfold badN validN at hb
  simp at hb
  obtain ⟨⟨⟨h1, h2⟩, h3⟩, h4⟩ := hb
  exact ⟨⟨⟨by omega, by omega⟩, by omega, by omega⟩, by omega, by omega, by omega, by omega⟩
structure OddOf (n b : Nat) (w w' : World) (v : Value) (L : List Nd) : Prop where
  own : OwnL 3 encN 57 w.heap.size w' v L
  len : L.length ≤ n + 1
  ok : ∀ x ∈ L, NOk x
  tape : TK w' b
  k : Exb b w w'
end Go.Proofs.YtbnbjiddffihoaaGreatDoor

/- The memory of Build of the package ideal: rows of links that are written link by link. -/
namespace Go.Proofs.YtbnbjiddffihoaaGreatDoor
open Go.RowKit

def InQ (qs : List (Int × Hdr)) (k : Nat) : Prop := ∃ (j : Nat) (r : Int × Hdr), qs[j]? = some r ∧ r.2.val.ownBlock = some k
def Exq (qs : List (Int × Hdr)) (w w' : World) : Prop := Chg (fun k => k < w.heap.size ∧ ¬ InQ qs k) w w'
theorem Exq.refl (qs : List (Int × Hdr)) (w : World) : Exq qs w w := Chg.refl _ w
theorem Exq.size {qs : List (Int × Hdr)} {w w' : World} (k : Exq qs w w') : w.heap.size ≤ w'.heap.size := Chg.size k
theorem Exq.nxq {qs : List (Int × Hdr)} {w w1 w2 : World} (h : Exq qs w w1) (k : Exq qs w1 w2) : Exq qs w w2 := Chg.trans h (Chg.mono k (fun _ hk => ⟨Nat.lt_of_lt_of_le hk.1 h.size, hk.2⟩))
theorem Exq.nx {qs : List (Int × Hdr)} {w w1 w2 : World} (h : Exq qs w w1) (k : Ex w1 w2) : Exq qs w w2 := Chg.trans h (Chg.mono k (fun _ hk => Nat.lt_of_lt_of_le hk.1 h.size))
theorem Exq.of_ex {qs : List (Int × Hdr)} {w w' : World} (k : Ex w w') : Exq qs w w' := Chg.mono k (fun _ hk => hk.1)
theorem Exq.set {qs : List (Int × Hdr)} {w w' : World} (h : Exq qs w w') {p : Addr} (v : Value) (hp : InQ qs p.block) : Exq qs w (w'.setCell p v) := Chg.setCell h v (fun k hk he => hk.2 (he ▸ hp))
theorem inQ_base {base : Nat} {w : World} {v : Value} {qs : List (Int × Hdr)} {L : List Lkd} (h : OwnLk base w v qs L) {k : Nat} (hk : InQ qs k) : base ≤ k ∧ k < w.heap.size := by
  obtain ⟨j, r, hr, hg⟩ := hk
  exact ⟨(OwnN.blk h hr hg).1, OwnN.lt h hr hg⟩
theorem inQ_ne {base : Nat} {w : World} {v : Value} {qs : List (Int × Hdr)} {L : List Lkd} (h : OwnLk base w v qs L) {k : Nat} (hk : v.ownBlock = some k) : ¬ InQ qs k := by
  rintro ⟨j, r, hr, hg⟩
  exact OwnN.ne (by decide) h hr hg hk
def ILt (T : Nat → Prop) (w : World) (a : Option Addr) (n : Nat) (M : List (List Int)) : Prop :=
  ∃ hs : List (Unit × Hdr), Rd 1 (encP enc0) T w a n hs ∧ M.length = n ∧ ∀ (j : Nat) (q : Unit × Hdr) (c : List Int), hs[j]? = some q → M[j]? = some c → Rd 1 encI T w q.2.1 q.2.2.1 c
theorem ILt.chg {T : Nat → Prop} {w w' : World} {a : Option Addr} {n : Nat} {M : List (List Int)} (h : ILt T w a n M) (k : Chg T w w') : ILt T w' a n M := by
  obtain ⟨hs, h1, h2, h3⟩ := h
  exact ⟨hs, Rd.chg h1 k (fun _ x => x), h2, fun j q c hq hc => Rd.chg (h3 j q c hq hc) k (fun _ x => x)⟩
theorem ILt.at {T : Nat → Prop} {w : World} {a : Option Addr} {n : Nat} {M : List (List Int)} (h : ILt T w a n M) {j : Nat} (hj : j < n) :
    ∃ x o a' n' c' c, a = some ⟨x, o, none⟩ ∧ T x ∧ M[j]? = some c ∧ w.cell? ⟨x, o + j, none⟩ = some (.slice a' n' c') ∧ Rd 1 encI T w a' n' c := by
  obtain ⟨hs, h1, h2, h3⟩ := h
  obtain ⟨x, o, q, e, hx, hq, hc⟩ := Rd.at h1 hj
  obtain ⟨c, hcc⟩ : ∃ c, M[j]? = some c := ⟨M[j]'(by omega), by simp⟩
  refine ⟨x, o, q.2.1, q.2.2.1, q.2.2.2, c, e, hx, hcc, ?_, h3 j q c hq hcc⟩
  have := hc 0 _ rfl
  rw [Nat.mul_one, Nat.add_zero] at this
  exact this
theorem OwnIL.ilt {base : Nat} {w : World} {v : Value} {qs : List (Unit × Hdr)} {M : List (List Int)} (h : OwnIL base w v qs M) :
    ∃ a cap, v = .slice a M.length cap ∧ ILt (fun k => base ≤ k ∧ k < w.heap.size) w a M.length M := by
  obtain ⟨a, cap, e, r, c1, c2, c3, c4⟩ := h.1.rd (fun _ => rfl)
  have hl := h.2.1
  rw [List.length_map] at hl
  rw [hl] at e r
  refine ⟨a, cap, e, qs, r, rfl, fun j q c hq hc => ?_⟩
  obtain ⟨r1, r2⟩ := h.2.2.1 j q (pairU c) hq (by rw [List.getElem?_map, hc]; rfl)
  obtain ⟨a', cap', e', r', _⟩ := r2.rd (fun _ => rfl)
  obtain ⟨x, q1, q2, q3⟩ := q
  simp only [Hdr.val, Value.slice.injEq] at e'
  obtain ⟨rfl, rfl, rfl⟩ := e'
  exact r'
theorem mkLk0 (w : World) : (Instr.makeSlice 100 (.int .i64 1) (.int .i64 1)).run Tryz.prog w = .ok (.slice (some ⟨w.heap.size, 0, none⟩) 1 1) (w.alloc (.cells ((List.replicate 1 ((0, 0) : Int × Int)).flatMap encS).toArray 65)) := by kernel_rfl
theorem mkLk1 (w : World) : (Instr.makeSlice 100 (.int .i64 2) (.int .i64 2)).run Tryz.prog w = .ok (.slice (some ⟨w.heap.size, 0, none⟩) 2 2) (w.alloc (.cells ((List.replicate 2 ((0, 0) : Int × Int)).flatMap encS).toArray 65)) := by kernel_rfl
theorem mkLk2 (w : World) : (Instr.makeSlice 100 (.int .i64 3) (.int .i64 3)).run Tryz.prog w = .ok (.slice (some ⟨w.heap.size, 0, none⟩) 3 3) (w.alloc (.cells ((List.replicate 3 ((0, 0) : Int × Int)).flatMap encS).toArray 65)) := by kernel_rfl
theorem mkLk3 (w : World) : (Instr.makeSlice 100 (.int .i64 4) (.int .i64 4)).run Tryz.prog w = .ok (.slice (some ⟨w.heap.size, 0, none⟩) 4 4) (w.alloc (.cells ((List.replicate 4 ((0, 0) : Int × Int)).flatMap encS).toArray 65)) := by kernel_rfl
theorem mkLk4 (w : World) : (Instr.makeSlice 100 (.int .i64 5) (.int .i64 5)).run Tryz.prog w = .ok (.slice (some ⟨w.heap.size, 0, none⟩) 5 5) (w.alloc (.cells ((List.replicate 5 ((0, 0) : Int × Int)).flatMap encS).toArray 65)) := by kernel_rfl
theorem mkLk5 (w : World) : (Instr.makeSlice 100 (.int .i64 6) (.int .i64 6)).run Tryz.prog w = .ok (.slice (some ⟨w.heap.size, 0, none⟩) 6 6) (w.alloc (.cells ((List.replicate 6 ((0, 0) : Int × Int)).flatMap encS).toArray 65)) := by kernel_rfl
theorem mkLk6 (w : World) : (Instr.makeSlice 100 (.int .i64 7) (.int .i64 7)).run Tryz.prog w = .ok (.slice (some ⟨w.heap.size, 0, none⟩) 7 7) (w.alloc (.cells ((List.replicate 7 ((0, 0) : Int × Int)).flatMap encS).toArray 65)) := by kernel_rfl
theorem mkLk7 (w : World) : (Instr.makeSlice 100 (.int .i64 8) (.int .i64 8)).run Tryz.prog w = .ok (.slice (some ⟨w.heap.size, 0, none⟩) 8 8) (w.alloc (.cells ((List.replicate 8 ((0, 0) : Int × Int)).flatMap encS).toArray 65)) := by kernel_rfl
theorem mkLk8 (w : World) : (Instr.makeSlice 100 (.int .i64 9) (.int .i64 9)).run Tryz.prog w = .ok (.slice (some ⟨w.heap.size, 0, none⟩) 9 9) (w.alloc (.cells ((List.replicate 9 ((0, 0) : Int × Int)).flatMap encS).toArray 65)) := by kernel_rfl
theorem mkLk9 (w : World) : (Instr.makeSlice 100 (.int .i64 10) (.int .i64 10)).run Tryz.prog w = .ok (.slice (some ⟨w.heap.size, 0, none⟩) 10 10) (w.alloc (.cells ((List.replicate 10 ((0, 0) : Int × Int)).flatMap encS).toArray 65)) := by kernel_rfl
theorem mkLk10 (w : World) : (Instr.makeSlice 100 (.int .i64 11) (.int .i64 11)).run Tryz.prog w = .ok (.slice (some ⟨w.heap.size, 0, none⟩) 11 11) (w.alloc (.cells ((List.replicate 11 ((0, 0) : Int × Int)).flatMap encS).toArray 65)) := by kernel_rfl
theorem mkLk11 (w : World) : (Instr.makeSlice 100 (.int .i64 12) (.int .i64 12)).run Tryz.prog w = .ok (.slice (some ⟨w.heap.size, 0, none⟩) 12 12) (w.alloc (.cells ((List.replicate 12 ((0, 0) : Int × Int)).flatMap encS).toArray 65)) := by kernel_rfl
theorem mkLk12 (w : World) : (Instr.makeSlice 100 (.int .i64 13) (.int .i64 13)).run Tryz.prog w = .ok (.slice (some ⟨w.heap.size, 0, none⟩) 13 13) (w.alloc (.cells ((List.replicate 13 ((0, 0) : Int × Int)).flatMap encS).toArray 65)) := by kernel_rfl
theorem mkLk13 (w : World) : (Instr.makeSlice 100 (.int .i64 14) (.int .i64 14)).run Tryz.prog w = .ok (.slice (some ⟨w.heap.size, 0, none⟩) 14 14) (w.alloc (.cells ((List.replicate 14 ((0, 0) : Int × Int)).flatMap encS).toArray 65)) := by kernel_rfl
theorem mkLk14 (w : World) : (Instr.makeSlice 100 (.int .i64 15) (.int .i64 15)).run Tryz.prog w = .ok (.slice (some ⟨w.heap.size, 0, none⟩) 15 15) (w.alloc (.cells ((List.replicate 15 ((0, 0) : Int × Int)).flatMap encS).toArray 65)) := by kernel_rfl
theorem mkLk15 (w : World) : (Instr.makeSlice 100 (.int .i64 16) (.int .i64 16)).run Tryz.prog w = .ok (.slice (some ⟨w.heap.size, 0, none⟩) 16 16) (w.alloc (.cells ((List.replicate 16 ((0, 0) : Int × Int)).flatMap encS).toArray 65)) := by kernel_rfl
theorem mkLk16 (w : World) : (Instr.makeSlice 100 (.int .i64 17) (.int .i64 17)).run Tryz.prog w = .ok (.slice (some ⟨w.heap.size, 0, none⟩) 17 17) (w.alloc (.cells ((List.replicate 17 ((0, 0) : Int × Int)).flatMap encS).toArray 65)) := by kernel_rfl
theorem mkLk (m M1 : Nat) (hm : m ≤ 16) (h : M1 = m + 1) (w : World) : (Instr.makeSlice 100 (.int .i64 ((m : Int) + 1)) (.int .i64 ((m : Int) + 1))).run Tryz.prog w =
    .ok (.slice (some ⟨w.heap.size, 0, none⟩) M1 M1) (w.alloc (.cells ((List.replicate M1 ((0, 0) : Int × Int)).flatMap encS).toArray 65)) := by
  subst h
  match m, hm with
  | 0, _ => exact mkLk0 w
  | 1, _ => exact mkLk1 w
  | 2, _ => exact mkLk2 w
  | 3, _ => exact mkLk3 w
  | 4, _ => exact mkLk4 w
  | 5, _ => exact mkLk5 w
  | 6, _ => exact mkLk6 w
  | 7, _ => exact mkLk7 w
  | 8, _ => exact mkLk8 w
  | 9, _ => exact mkLk9 w
  | 10, _ => exact mkLk10 w
  | 11, _ => exact mkLk11 w
  | 12, _ => exact mkLk12 w
  | 13, _ => exact mkLk13 w
  | 14, _ => exact mkLk14 w
  | 15, _ => exact mkLk15 w
  | 16, _ => exact mkLk16 w
  | m + 17, h => exact absurd h (by omega)
theorem rows_set {S : List Nd} (hd : S.Pairwise fun x y => x.id ≠ y.id) {m p j : Nat} {y : Nd} (hp : S[p]? = some y) (hj : j < m) (F G : FnL) (hG : ∀ x h, (x ≠ y.id ∨ h ≠ j) → G x h = F x h) :
    rowsF S m G = (rowsF S m F).set p (y.id, ((List.range m).map fun j => F y.id j).set j (G y.id j)) := by
  obtain ⟨hpl, hpe⟩ := List.getElem?_eq_some_iff.1 hp
  apply List.ext_getElem?
  intro i
  unfold rowsF
  by_cases hi : i = p
  · subst hi
    rw [List.getElem?_set_self (by simpa using hpl), List.getElem?_map, hp]
    simp only [Option.map_some, Option.some.injEq, Prod.mk.injEq, true_and]
    apply List.ext_getElem?
    intro h
    by_cases hh : h = j
    · subst hh
      rw [List.getElem?_set_self (by simpa using hj), List.getElem?_map, List.getElem?_range hj]
      rfl
    · rw [List.getElem?_set_ne (by omega)]
      simp only [List.getElem?_map]
      by_cases hm : h < m
      · rw [List.getElem?_range hm]
        simp only [Option.map_some]
        rw [hG _ _ (.inr hh)]
      · rw [List.getElem?_eq_none (by simpa using hm)]; rfl
  · rw [List.getElem?_set_ne (by omega)]
    simp only [List.getElem?_map]
    cases hx : S[i]? with
    | none => rfl
    | some x =>
      simp only [Option.map_some]
      have hne : x.id ≠ y.id := by
        obtain ⟨hil, hie⟩ := List.getElem?_eq_some_iff.1 hx
        have hw := List.pairwise_iff_getElem.1 hd
        rcases Nat.lt_or_gt_of_ne hi with h | h
        · have := hw i p hil hpl h; rwa [hie, hpe] at this
        · have := hw p i hpl hil h; rw [hie, hpe] at this; exact fun e => this e.symm
      congr 2
      apply List.map_congr_left
      intro h _
      exact hG _ _ (.inl hne)
theorem rows_at {base : Nat} {w : World} {v : Value} {qs : List (Int × Hdr)} {S : List Nd} {m : Nat} {F : FnL} (hd : S.Pairwise fun x y => x.id ≠ y.id) (h : OwnLk base w v qs (rowsF S m F)) {p j : Nat} {y : Nd} (hp : S[p]? = some y) (hj : j < m) :
    ∃ g cap g' cap', v = .slice (some ⟨g, 0, none⟩) S.length cap ∧ g < w.heap.size ∧ ¬ InQ qs g ∧ w.cell? ⟨g, p * 2 + 1, none⟩ = some (.slice (some ⟨g', 0, none⟩) m cap') ∧ InQ qs g' ∧
      (∃ u, w.cell? ⟨g', j * 2, none⟩ = some u) ∧ (∃ u, w.cell? ⟨g', j * 2 + 1, none⟩ = some u) ∧ w.frozen? ⟨g', j * 2, none⟩ = false ∧ w.frozen? ⟨g', j * 2 + 1, none⟩ = false ∧
      (∀ u : Int, OwnLk base (w.setCell ⟨g', j * 2, none⟩ (.int .i64 u)) v qs (rowsF S m (updL F y.id j u))) ∧
      ∀ u : Int, OwnLk base (w.setCell ⟨g', j * 2 + 1, none⟩ (.int .i64 u)) v qs (rowsF S m (updR F y.id j u)) := by
  have hpl := (List.getElem?_eq_some_iff.1 hp).1
  have hL : (rowsF S m F)[p]? = some (y.id, (List.range m).map fun j => F y.id j) := by unfold rowsF; rw [List.getElem?_map, hp]; rfl
  obtain ⟨hd1, hq, ho⟩ := OwnN.get (p := 1) h hL
  obtain ⟨a, cap, e, r, c1, c2, c3, c4⟩ := h.1.rd (fun _ => rfl)
  have hlen : qs.length = S.length := by rw [h.2.1]; unfold rowsF; simp
  obtain ⟨g, hga, hgb⟩ := c3 (by intro h0; rw [h0] at hlen; simp at hlen; omega)
  cases hga
  subst e
  have hvb : (Value.slice (some ⟨g, 0, none⟩) qs.length cap).ownBlock = some g := rfl
  have hrow : ((List.range m).map fun j => F y.id j)[j]? = some (F y.id j) := by rw [List.getElem?_map, List.getElem?_range hj]; rfl
  have hhd : ∃ g' cap', hd1.val = .slice (some ⟨g', 0, none⟩) m cap' := by
    rcases ho.2 with ⟨h1, h2⟩ | ⟨g', cap', cur, h1, _⟩
    · exfalso; have h2' := h2; simp at h2'; omega
    · exact ⟨g', cap', by rw [h1]; simp⟩
  obtain ⟨g', cap', hv'⟩ := hhd
  have hinq : InQ qs g' := ⟨p, _, hq, by rw [hv']; rfl⟩
  have hcell := (h.1.set1 (sz := 2) (enc := encP encI) (c := 1) (fun _ => rfl) hq (by omega)).1
  rw [hv'] at ho
  obtain ⟨q0, f0, O0⟩ := own_set1 (sz := 2) (enc := encS) (c := 0) (fun _ => rfl) ho hrow (by omega)
  obtain ⟨q1, f1, O1⟩ := own_set1 (sz := 2) (enc := encS) (c := 1) (fun _ => rfl) ho hrow (by omega)
  have hgl : g < w.heap.size := by obtain ⟨_, cur, hc⟩ := OwnW.blk h.1 hvb; exact heap_lt hc
  have key : ∀ (c : Nat) (u : Value) (row' : List (Int × Int)), OwnL 2 encS 65 base (w.setCell ⟨g', j * 2 + c, none⟩ u) hd1.val row' → OwnLk base (w.setCell ⟨g', j * 2 + c, none⟩ u) (.slice (some ⟨g, 0, none⟩) qs.length cap) qs ((rowsF S m F).set p (y.id, row')) := by
    intro c u row' ho'
    exact OwnN.keep (by decide) h hq ho' ((Chg.refl _ w).setCell _ (fun x hx he => hx.2 (by rw [hv', he]; rfl)))
  refine ⟨g, cap, g', cap', by rw [hlen], hgl, inQ_ne h hvb, ?_, hinq, ⟨_, q0⟩, ⟨_, q1⟩, f0, f1, fun u => ?_, fun u => ?_⟩
  · rw [← hv']
    exact hcell
  · rw [rows_set hd hp hj F (updL F y.id j u) (fun x h hx => by unfold updL; rw [if_neg (fun e => by rcases hx with hx | hx; exact hx e.1; exact hx e.2)])]
    have hu : updL F y.id j u y.id j = (u, (F y.id j).2) := by unfold updL; rw [if_pos ⟨rfl, rfl⟩]
    rw [hu]
    refine key 0 _ _ ?_
    rw [hv']
    exact O0 (u, (F y.id j).2) (.int .i64 u) rfl
  · rw [rows_set hd hp hj F (updR F y.id j u) (fun x h hx => by unfold updR; rw [if_neg (fun e => by rcases hx with hx | hx; exact hx e.1; exact hx e.2)])]
    have hu : updR F y.id j u y.id j = ((F y.id j).1, u) := by unfold updR; rw [if_pos ⟨rfl, rfl⟩]
    rw [hu]
    refine key 1 _ _ ?_
    rw [hv']
    exact O1 ((F y.id j).1, u) (.int .i64 u) rfl
end Go.Proofs.YtbnbjiddffihoaaGreatDoor

/- Build of the package ideal. -/
namespace Go.Proofs.YtbnbjiddffihoaaGreatDoor
open Go.RowKit

def posK (S : List Nd) : Nat → Int → Int
  | 0 => fun _ => 0
  | k + 1 => fun y => if y = (S[k]?.getD Nd.zero).id then (k : Int) else posK S k y
theorem posK_at {S : List Nd} (hd : S.Pairwise fun x y => x.id ≠ y.id) : ∀ (k p : Nat) (y : Nd), p < k → k ≤ S.length → S[p]? = some y → posK S k y.id = p
  | 0, _, _, h, _, _ => by omega
  | k + 1, p, y, hp, hk, hy => by
    unfold posK
    by_cases he : p = k
    · subst he; rw [hy]; exact if_pos rfl
    · obtain ⟨z, hz⟩ : ∃ z, S[k]? = some z := ⟨S[k], List.getElem?_eq_getElem (by omega)⟩
      have hne : y.id ≠ z.id := by
        obtain ⟨h1, e1⟩ := List.getElem?_eq_some_iff.1 hy
        obtain ⟨h2, e2⟩ := List.getElem?_eq_some_iff.1 hz
        have := List.pairwise_iff_getElem.1 hd p k h1 h2 (by omega)
        rwa [e1, e2] at this
      rw [hz, if_neg (by exact hne)]
      exact posK_at hd k p y (by omega) (by omega) hy
theorem rows0_snoc (S : List Nd) (m k : Nat) (x : Nd) (hx : S[k]? = some x) : rowsF (S.take (k + 1)) m (procB S 0) = rowsF (S.take k) m (procB S 0) ++ [(x.id, List.replicate m (0, 0))] := by
  unfold rowsF
  rw [take_snocN S k x hx, List.map_append]
  congr 1
  show [(x.id, (List.range m).map fun _ => ((0, 0) : Int × Int))] = _
  rw [List.map_const', List.length_range]
theorem lists_in {S : List Nd} {h : Int} : ∀ c ∈ listsN S h, ∀ x ∈ c, ∃ y ∈ S, y.id = x := by
  intro c hc x hx
  unfold listsN at hc
  split at hc
  · obtain ⟨d, hd, rfl⟩ := List.mem_map.1 hc
    obtain ⟨y, hy, rfl⟩ := List.mem_map.1 hx
    refine ⟨y, ?_, rfl⟩
    by_cases hh : 16 < h
    · rw [classesN_big hh] at hd; cases hd
    · rw [classesN_fold hh] at hd
      exact (sortN_mem S y).1 ((foldC_fine (h := h) (P := fun y => y ∈ sortN S) (sortN S) (fun _ hy => hy) d hd).2.2 y hy)
  · cases hc
theorem lists_sm {S : List Nd} {h : Int} (hl : S.length ≤ 1000) : (listsN S h).length ≤ 1000 ∧ ∀ c ∈ listsN S h, c.length ≤ 1000 := by
  unfold listsN
  split
  · have := classesN_sm (sortN S) h (by rw [sortN_length]; exact hl)
    refine ⟨by rw [List.length_map]; exact this.1, fun c hc => ?_⟩
    obtain ⟨d, hd, rfl⟩ := List.mem_map.1 hc
    unfold idsN
    rw [List.length_map]
    exact this.2 d hd
  · exact ⟨by simp, by simp⟩
def B1Rel (S : List Nd) (m b : Nat) (w : World) (o i : Value) (wr : World) : Prop :=
  ∃ (k : Nat) (qs : List (Int × Hdr)), k ≤ S.length ∧ i = .int .i64 k ∧ OwnLk w.heap.size wr o qs (rowsF (S.take k) m (procB S 0)) ∧ MapI wr b k (posK S k) ∧ Exb b w wr
def B2Rel (S : List Nd) (m base : Nat) (v : Value) (qs : List (Int × Hdr)) (w : World) (i : Value) (wr : World) : Prop :=
  ∃ j : Nat, j ≤ m ∧ i = .int .i64 j ∧ OwnLk base wr v qs (rowsF S m (procB S j)) ∧ Exq qs w wr
def B3Rel (S : List Nd) (m base j : Nat) (M : List (List Int)) (v : Value) (qs : List (Int × Hdr)) (w : World) (i : Value) (wr : World) : Prop :=
  ∃ q : Nat, q ≤ M.length ∧ i = .int .i64 q ∧ OwnLk base wr v qs (rowsF S m (procL j (M.take q) (procB S j))) ∧ Exq qs w wr
def B4Rel (S : List Nd) (m base j : Nat) (c : List Int) (F : FnL) (v : Value) (qs : List (Int × Hdr)) (w : World) (i : Value) (wr : World) : Prop :=
  ∃ r : Nat, (r < c.length ∨ r = 0) ∧ i = .int .i64 ((r : Int) + 1) ∧ OwnLk base wr v qs (rowsF S m (procI c j F r)) ∧ Exq qs w wr
theorem blk_ne {α : Type} {sz base g : Nat} {enc : α → List Value} {e ty : TypeId} {w : World} {v : Value} {l : List α} {cs : List Value} (h : OwnW sz enc e base w v l) (B : Blk w g cs ty) (hne : ty ≠ e) : ¬ v.ownBlock = some g := by
  intro hv
  obtain ⟨_, cur, e1⟩ := h.blk hv
  unfold Blk at B
  rw [B] at e1
  simp at e1
  exact hne e1.2
theorem own_out {base : Nat} {w : World} {v : Value} {qs : List (Int × Hdr)} {S : List Nd} {m : Nat} {F : FnL} (h : OwnLk base w v qs (rowsF S m F)) : ∃ a c, v = .slice a S.length c := by
  obtain ⟨a, c, e, _⟩ := h.1.rd (fun _ => rfl)
  refine ⟨a, c, ?_⟩
  rw [e, h.2.1]
  unfold rowsF
  rw [List.length_map]
theorem atI_of {c : List Int} {r : Nat} {x : Int} (h : c[r]? = some x) : atI c r = x := by unfold atI; rw [h]; rfl
theorem Chg.undrew {S : Nat → Prop} {w w' : World} (h : Chg S w w') : Chg S w.drew w' := ⟨h.1, h.2, h.3, h.4, h.5⟩
theorem mem_at {S : List Nd} {x : Int} (h : ∃ y : Nd, y ∈ S ∧ y.id = x) : ∃ (p : Nat) (y : Nd), S[p]? = some y ∧ y.id = x := by
  obtain ⟨y, hy, e⟩ := h
  obtain ⟨p, hp⟩ := List.mem_iff_getElem?.1 hy
  exact ⟨p, y, hp, e⟩

set_option maxRecDepth 100000 in
set_option maxHeartbeats 8000000 in
theorem build_q (a : Option Addr) (n c : Nat) (l : List Nd) (h : Int) (w : World) (hs : Sl 3 encN w a n l) (hn : n ≤ 1000) (hc : n ≤ c) (hm : c ≤ maxLen) (hw : ∀ x ∈ l, x.word < 4294967296) (hT : TabG w)
    (L : List Lkd) (e0 : Int) (hL1 : checkN l ≠ 0 → L = [] ∧ e0 = 1) (hL2 : checkN l = 0 → lvlN h = false → L = [] ∧ e0 = 2) (hL3 : checkN l = 0 → ∀ m : Nat, h = m → m ≤ 16 → L = rowsF (sortN l) (m + 1) (procB (sortN l) (m + 1)) ∧ e0 = 0) :
    Calls Tryz.prog 58 #[.slice a n c, .int .i64 h] w (LkPost L e0 w) := by
  have HW := Lib.hid hw
  have HL := Lib.hid hs.len
  have HT := Lib.hid hT
  have H1 := Lib.hid hL1
  have H2 := Lib.hid hL2
  have H3 := Lib.hid hL3
  have hmm := @run_makeMap Tryz.prog
  clear hw hT hL1 hL2 hL3
  go_enter Tryz.func58, Tryz.ntmps58
  go_wp2_with fail
  (with_reducible refine (ordered_p _ _ _ _ _ hs hn hc hm).mono ?_)
  rintro e w0 ⟨v, S, rfl, OS, ⟨hp, hsrt⟩, k0⟩
  have SL := Lib.hid hp.length_eq
  have SW : Hid (∀ x ∈ S, x.word < 4294967296) := Lib.hid (fun x hx => HW.out x (hp.mem_iff.1 hx))
  have HSR := Lib.hid hsrt
  replace HT := Lib.hid (HT.out.nx k0)
  have SOK : Hid (checkN l = 0 → ∀ x ∈ S, 1 ≤ x.id ∧ x.id ≤ 2147483647) := Lib.hid (fun h0 x hx => by
    have := roster_ok h0 x (hp.mem_iff.1 hx)
    exact ⟨this.2.1, this.2.2.1⟩)
  clear hp hsrt hs
  by_cases hck : checkN l = 0
  case neg =>
    obtain ⟨rfl, rfl⟩ := H1.out hck
    have d1 : (checkN l == 0) = false := by simpa using hck
    rw [d1]
    clear hck d1 OS
    go_wp2_with fail
    go_ret2
    exact ⟨_, [], rfl, OwnN.nil _ _ _ _ _ _ _ _, k0⟩
  have HCK := Lib.hid hck
  have d1 : (checkN l == 0) = true := by simpa using hck
  rw [d1]
  clear hck d1
  by_cases hlo : h < 0
  · obtain ⟨rfl, rfl⟩ := H2.out HCK.out (by unfold lvlN; simp; omega)
    clear OS
    go_wp2_with fail
    go_ret2
    exact ⟨_, [], rfl, OwnN.nil _ _ _ _ _ _ _ _, k0⟩
  by_cases hhi : 16 < h
  · obtain ⟨rfl, rfl⟩ := H2.out HCK.out (by unfold lvlN; simp; omega)
    clear OS
    go_wp2_with fail
    go_ret2
    exact ⟨_, [], rfl, OwnN.nil _ _ _ _ _ _ _ _, k0⟩
  obtain ⟨m, rfl⟩ := Int.eq_ofNat_of_zero_le (show 0 ≤ h by omega)
  have hm16 : m ≤ 16 := by omega
  obtain ⟨hLL, rfl⟩ := H3.out HCK.out m rfl hm16
  rw [← HSR.out HCK.out] at hLL
  have HLL := Lib.hid hLL
  have ID : Hid (S.Pairwise fun x y => x.id ≠ y.id) := Lib.hid (by
    rw [HSR.out HCK.out]
    exact (sortN_str HCK.out).imp (fun h => h.2))
  have SOK := Lib.hid (SOK.out HCK.out)
  obtain ⟨M1, hM1⟩ : ∃ M1, M1 = m + 1 := ⟨_, rfl⟩
  rw [← hM1] at HLL
  have HM1 := Lib.hid hM1
  have hM17 : M1 ≤ 17 := by omega
  clear hM1
  obtain ⟨aS, cS, rfl, sS, hcS, hmS⟩ := OS.sl3 (fun _ => rfl)
  have hnS : S.length ≤ 1000 := by have := HL.out; have := SL.out; omega
  clear OS hLL H1 H2 H3 hlo hhi
  obtain ⟨w1, hw1⟩ : ∃ w1, w1 = w0.alloc (.map #[] 0) := ⟨_, rfl⟩
  obtain ⟨b, hb⟩ : ∃ b, b = w0.heap.size := ⟨_, rfl⟩
  have MI : MapI w1 b 0 (posK S 0) := by rw [hw1, hb]; exact MapI.made w0
  have k1 : Ex w0 w1 := by rw [hw1]; exact Ex.new _ _
  have sSb := (sS.slb (Nat.le_of_eq hb.symm)).nxb (k1.b b)
  have hb0 : w.heap.size ≤ b := by have := k0.size; omega
  have HT1 := Lib.hid (HT.out.nx k1)
  have hTb : 1 < b := by have := HT.out.lt; omega
  have hTb := Lib.hid hTb
  have hbw1 : b < w1.heap.size := MI.lt
  have HW1 := Lib.hid hw1
  have HB := Lib.hid hb
  have K1 := Lib.hid (k0.nx k1)
  have SSB := Lib.hid sSb
  clear hw1 hb k0 k1 sS sSb
  go_upto_region 7 with fail
  rw [← HB.out, ← HW1.out]
  go_wp2_with fail
  go_loopw [9, 32] (fun o i wr => B1Rel S M1 b w1 o i wr) (fun _ i _ => S.length - (intOf i).toNat)
  case atStart => exact ⟨0, [], by omega, rfl, OwnN.nil _ _ _ _ _ _ _ _, MI, Exb.refl _ _⟩
  case round =>
    clear MI
    obtain ⟨k, qs, hk, rfl, OQ, MI, kw⟩ := hrel
    obtain ⟨wo, rfl⟩ : ∃ wo : World, wo = wr := ⟨_, rfl⟩
    by_cases hlt : k < S.length
    · obtain ⟨x1, o1, y, rfl, hx1, hy, hc1⟩ := ((SSB.out.nxb kw).sl).at hlt
      obtain ⟨yi, yk, yw⟩ := y
      have e0 : wo.cell? ⟨x1, o1 + k * 3, none⟩ = some (.int .i64 yi) := hc1 0 _ rfl
      have e1 : wo.cell? ⟨x1, o1 + k * 3 + 1, none⟩ = some (.string yk) := hc1 1 _ rfl
      have e2 : wo.cell? ⟨x1, o1 + k * 3 + 2, none⟩ = some (.int .u32 yw) := hc1 2 _ rfl
      have e2' : wo.cell? ⟨x1, o1 + k * 3 + 1 + 1, none⟩ = some (.int .u32 yw) := e2
      have RS := Lib.hid (rows0_snoc S M1 k _ hy)
      have hid := SOK.out _ (List.mem_of_getElem? hy)
      have hid1 : 1 ≤ yi := hid.1
      have hid2 : yi ≤ 2147483647 := hid.2
      have PK : Hid ((fun y => if y = yi then (k : Int) else posK S k y) = posK S (k + 1)) := Lib.hid (by
        show _ = fun y => if y = (S[k]?.getD Nd.zero).id then (k : Int) else posK S k y
        rw [hy]; rfl)
      clear hy hc1 hid
      have k7 := Ex.new wo (.cells #[.int .i64 yi, .string yk, .int .u32 yw] 57)
      have B4 := Blk.new wo [.int .i64 yi, .string yk, .int .u32 yw] 57
      obtain ⟨w7, hw7⟩ : ∃ w7, w7 = wo.alloc (.cells #[.int .i64 yi, .string yk, .int .u32 yw] 57) := ⟨_, rfl⟩
      obtain ⟨g4, hg4⟩ : ∃ g4, g4 = wo.heap.size := ⟨_, rfl⟩
      have B4 : Blk w7 g4 [.int .i64 yi, .string yk, .int .u32 yw] 57 := by rw [hw7, hg4]; exact B4
      rw [← hw7] at k7
      have hg4b : g4 ≠ b := by have := MI.lt; omega
      have HW7 := Lib.hid hw7
      have HG4 := Lib.hid hg4
      replace OQ := OwnN.nx OQ k7
      replace MI := MI.nx k7
      replace kw := kw.nxb (k7.b b)
      clear hw7 hg4 k7
      go_upto_region 11 with fail
      rw [← HG4.out, ← HW7.out]
      clear e0 e1 e2 e2'
      obtain ⟨wm, hrun, MI2, km⟩ := MI.put (x := yi) (v := k) (by omega) (by omega) (show k < maxLen by unfold maxLen; omega)
      have y0 := B4.cell 0 _ rfl
      have B4m := Lib.hid (B4.nxb hg4b km)
      have OQm := Lib.hid (OwnN.nxb OQ hbw1 km)
      replace kw := Lib.hid (kw.nxb km)
      rw [PK.out] at MI2
      have MI2 := Lib.hid MI2
      clear OQ MI B4 km
      go_upto_region 12 with fail
      clear hrun y0
      have B4d := Lib.hid (B4m.out.nx (Ex.refl wm).drew)
      obtain ⟨Z, hZ⟩ : ∃ Z, Z = ((List.replicate M1 ((0, 0) : Int × Int)).flatMap encS).toArray := ⟨_, rfl⟩
      have cm : (Instr.makeSlice 100 (.int .i64 ((m : Int) + 1)) (.int .i64 ((m : Int) + 1))).run Tryz.prog wm.drew = .ok (.slice (some ⟨wm.drew.heap.size, 0, none⟩) M1 M1) (wm.drew.alloc (.cells Z 65)) := by
        rw [hZ]; exact mkLk m M1 hm16 HM1.out _
      have CM := Lib.hid cm
      have HZ := Lib.hid hZ
      have hbs : w1.heap.size ≤ wm.heap.size := kw.out.size
      have IN : Hid (OwnL 2 encS 65 w1.heap.size (wm.alloc (.cells Z 65)) (.slice (some ⟨wm.heap.size, 0, none⟩) M1 M1) (List.replicate M1 ((0, 0) : Int × Int))) := Lib.hid (by
        have := OwnL.lit (sz := 2) (enc := encS) (e := 65) (base := w1.heap.size) (w := wm) (List.replicate M1 ((0, 0) : Int × Int)) (fun _ => rfl) hbs (by rw [List.length_replicate]; unfold maxLen; omega) (cs := Z) hZ
        rwa [List.length_replicate] at this)
      have hkq : qs.length = k := by rw [OQm.out.2.1]; unfold rowsF; rw [List.length_map, List.length_take]; omega
      have hkq := Lib.hid hkq
      have FR : Hid (∀ (j : Nat) (r : Int × Hdr) (g : Nat), qs[j]? = some r → r.2.val.ownBlock = some g → ¬ (Value.slice (some ⟨wm.heap.size, 0, none⟩) M1 M1).ownBlock = some g) := Lib.hid (by
        intro j r g hr hg hv
        have h1 : g < wm.heap.size := OwnN.lt OQm.out hr hg
        cases hv
        exact Nat.lt_irrefl _ h1)
      have wrm : IntKind.i64.wrap ((m : Int) + 1) = (m : Int) + 1 := IntWalk.i64_in _ (by omega)
      have NB := Lib.hid (blk_ne OQm.out.1 B4m.out (by decide))
      have G4L : Hid (g4 < wm.heap.size) := Lib.hid B4m.out.lt
      clear cm hZ
      refine wp_region_held_drew (S := Chg (· = g4) wm.drew) (by kernel_rfl) (Chg.refl _ _) (fun hHeld => ?_)
      refine wpAnyH_take (i := 0) (oi := ⟨some 41, .move (.tmp 9), 71, "ideal.go:79", #[], none⟩) (v := ?_) rfl (by kernel_rfl) (by kernel_rfl) (by kernel_rfl) (fun _ _ _ h => h) (Or.inl ⟨by rfl, ?hyr1x0q1⟩) (by assumption) ?restr1x0q1
      case hyr1x0q1 => intro wq hSw; (go_simp); (try with_reducible rfl)
      try simp only [Act.put, List.setIfInBounds_toArray, List.set_cons_zero, List.set_cons_succ]
      refine wpAnyH_take (i := 1) (oi := ⟨some 42, .fieldAddr 57 (.tmp 11) 0, 0, "ideal.go:79", #[], none⟩) (v := ?_) rfl (by kernel_rfl) (by kernel_rfl) (by kernel_rfl) (fun _ _ _ h => h) (Or.inl ⟨by rfl, ?hyr1x1q4⟩) (by assumption) ?restr1x1q4
      case hyr1x1q4 => intro wq hSw; (go_simp); (try with_reducible rfl)
      try simp only [Act.put, List.setIfInBounds_toArray, List.set_cons_zero, List.set_cons_succ]
      refine wpAnyH_take (i := 2) (oi := ⟨some 43, .load 3 (.tmp 42), 3, "ideal.go:79", #[⟨1, .data⟩], none⟩) (v := ?_) rfl (by kernel_rfl) (by kernel_rfl) (by kernel_rfl) (fun _ _ _ h => h) (Or.inl ⟨by rfl, ?hyr1x2q7⟩) (by assumption) ?restr1x2q7
      case hyr1x2q7 => intro wq hSw; (have cq := (B4d.out.chg hSw rfl).cell 0 _ rfl; go_simp); (try with_reducible rfl)
      try simp only [Act.put, List.setIfInBounds_toArray, List.set_cons_zero, List.set_cons_succ]
      refine wpAnyH_take (i := 3) (oi := ⟨some 44, .move (.tmp 1), 3, "ideal.go:79", #[], none⟩) (v := ?_) rfl (by kernel_rfl) (by kernel_rfl) (by kernel_rfl) (fun _ _ _ h => h) (Or.inl ⟨by rfl, ?hyr1x3q10⟩) (by assumption) ?restr1x3q10
      case hyr1x3q10 => intro wq hSw; (go_simp); (try with_reducible rfl)
      try simp only [Act.put, List.setIfInBounds_toArray, List.set_cons_zero, List.set_cons_succ]
      refine wpAnyH_take (i := 4) (oi := ⟨some 45, .binOp .add 3 (.tmp 44) (.const (.int .i64 1)) 3, 3, "ideal.go:79", #[⟨3, .data⟩], none⟩) (v := ?_) rfl (by kernel_rfl) (by kernel_rfl) (by kernel_rfl) (fun _ _ _ h => h) (Or.inl ⟨by rfl, ?hyr1x4q13⟩) (by assumption) ?restr1x4q13
      case hyr1x4q13 => intro wq hSw; (go_simp); (try with_reducible rfl)
      try simp only [Act.put, List.setIfInBounds_toArray, List.set_cons_zero, List.set_cons_succ]
      refine wpAnyH_ready (rs := [5]) (by kernel_rfl) (by simp) ?_
      refine AllReadyH.cons (o := ⟨some 46, .makeSlice 100 (.tmp 45) (.tmp 45), 100, "ideal.go:79", #[⟨4, .data⟩, ⟨4, .data⟩], none⟩) rfl (fun K hK => ?_) AllReadyH.nil
      have cm := CM.out
      go_simp
      clear cm
      refine hK.out _ _ ((Chg.undrew ((Chg.refl (· = g4) wm).alloc _ (fun x hx => by cases hx; exact G4L.out)).drew)) (fun hHeld => ?_)
      clear hK K
      try simp only [Act.put, List.setIfInBounds_toArray, List.set_cons_zero, List.set_cons_succ]
      refine wpAnyH_take (i := 6) (oi := ⟨some 47, .build 102 #[(0, .tmp 43), (1, .tmp 46)], 102, "ideal.go:79", #[⟨2, .data⟩, ⟨5, .data⟩], none⟩) (v := ?_) rfl (by kernel_rfl) (by kernel_rfl) (by kernel_rfl) (fun _ _ _ h => h) (Or.inl ⟨by rfl, ?hyr1x6q24⟩) (by assumption) ?restr1x6q24
      case hyr1x6q24 => intro wq hSw; (go_simp); (try with_reducible rfl)
      try simp only [Act.put, List.setIfInBounds_toArray, List.set_cons_zero, List.set_cons_succ]
      refine wpAnyH_ready (rs := [7]) (by kernel_rfl) (by simp) ?_
      refine AllReadyH.cons (o := ⟨some 48, .buildSlice 71 1 #[(0, .tmp 47)], 71, "ideal.go:79", #[⟨6, .data⟩], none⟩) rfl (fun K hK => ?_) AllReadyH.nil
      go_simp
      refine hK.out _ _ ((Chg.undrew (((Chg.refl (· = g4) wm).alloc _ (fun x hx => by cases hx; exact G4L.out)).alloc _ (fun x hx => by cases hx; exact Nat.lt_of_lt_of_le G4L.out (Ex.new wm _).size)).drew)) (fun hHeld => ?_)
      clear hK K
      try simp only [Act.put, List.setIfInBounds_toArray, List.set_cons_zero, List.set_cons_succ]
      refine wpAnyH_ready (rs := [8]) (by kernel_rfl) (by simp) ?_
      refine AllReadyH.cons (o := ⟨some 49, .call { callee := .builtin .append, args := #[.tmp 41, .tmp 48], argTypes := #[71, 71] }, 71, "ideal.go:79", #[⟨0, .data⟩, ⟨7, .data⟩], none⟩) rfl (fun K hK => ?_) AllReadyH.nil
      rw [if_pos (by rfl)]
      have kz : Ex wm ((wm.alloc (.cells Z 65)).alloc (.cells #[.int .i64 yi, .slice (some ⟨wm.heap.size, 0, none⟩) M1 M1] 102)).drew := ((Ex.new wm (.cells Z 65)).alloc _).drew
      have OQ2 := OwnN.nx OQm.out kz
      have hql : qs.length ≤ 1000000 := by rw [hkq.out]; omega
      have SX0 : Sl 2 (encP encI) ((wm.alloc (.cells Z 65)).alloc (.cells #[.int .i64 yi, .slice (some ⟨wm.heap.size, 0, none⟩) M1 M1] 102)) (some ⟨wm.heap.size + 1, 0, none⟩) 1 [((yi, (some ⟨wm.heap.size, 0, none⟩, M1, M1)) : Int × Hdr)] := Sl.lit _ (by simp) rfl (fun _ => rfl) rfl
      have SX := SX0.nx (Ex.refl _).drew
      have zz := Nat.le_trans hbs kz.size
      refine wp_append_W (enc := encP encI) _ (.tmp 41) (.tmp 48) 71 rfl w1.heap.size 102 (.agg #[.int .i64 0, .slice none 0 0]) 2 32 Tryz.underlying71 Tryz.infoLd rfl (by omega) (by omega) _ qs OQ2.1 rfl _ 1 1 [((yi, (some ⟨wm.heap.size, 0, none⟩, M1, M1)) : Int × Hdr)] SX (fun _ => rfl) (by simp [encP, encI, Hdr.val, Value.oneCell']) rfl hql (by omega) zz ?_
      intro v9 w9 own9 ch0 ch1 _
      refine hK.out _ _ ((Chg.undrew (Chg.trans (Chg.mono kz (fun x hx => by cases hx; exact G4L.out)) (Chg.mono ch0 (fun x hx => by cases hx; exact ⟨Nat.lt_of_lt_of_le G4L.out kz.size, NB.out⟩))))) (fun hHeld => ?_)
      clear hK K
      try simp only [Act.put, List.setIfInBounds_toArray, List.set_cons_zero, List.set_cons_succ]
      refine wpAnyH_take (i := 9) (oi := ⟨some 9, .assign (.tmp 49), 71, "ideal.go:79", #[⟨8, .data⟩, ⟨8, .chain⟩, ⟨0, .phase⟩, ⟨1, .phase⟩, ⟨2, .phase⟩, ⟨3, .phase⟩, ⟨4, .phase⟩, ⟨5, .phase⟩, ⟨6, .phase⟩, ⟨7, .phase⟩, ⟨8, .phase⟩], none⟩) (v := ?_) rfl (by kernel_rfl) (by kernel_rfl) (by kernel_rfl) (fun _ _ _ h => h) (Or.inl ⟨by rfl, ?hyr1x9q47⟩) (by assumption) ?restr1x9q47
      case hyr1x9q47 => intro wq hSw; (go_simp); (try with_reducible rfl)
      try simp only [Act.put, List.setIfInBounds_toArray, List.set_cons_zero, List.set_cons_succ]
      refine wpAnyH_done (by kernel_rfl) ?_ _
      have OQ9 := OwnN.push (by decide) OQ2 own9 ch0 (IN.out.nx (Ex.new _ _).drew) FR.out
      have kw9 : Exb b w1 w9 := Chg.trans (Chg.trans kw.out (Chg.mono kz (fun x hx => Nat.lt_of_lt_of_le hx.1 kw.out.size))) (Chg.mono ch1 (fun x hx => hx.1))
      have MI9 := MI2.out.chg (S := (· = b)) (Chg.trans (Chg.mono kz (fun x hx => by cases hx; exact MI2.out.lt)) (Chg.mono ch1 (fun x hx => by cases hx; exact hbw1))) rfl
      clear OQ2 own9 ch0 ch1 SX SX0
      go_wp2_with fail
      exact ⟨⟨k + 1, _, by omega, by go_num, by rw [RS.out]; exact OQ9, MI9, kw9⟩, by simp [intOf]; omega⟩
    · obtain rfl : k = S.length := by omega
      rw [List.take_length] at OQ
      obtain ⟨ao, co, rfl⟩ := own_out OQ
      have HQB : Hid (∀ k, InQ qs k → w1.heap.size ≤ k ∧ k < wo.heap.size) := Lib.hid (fun k hk => inQ_base OQ hk)
      have KT : Hid (∀ wr, Exq qs wo wr → Exb b w1 wr) := Lib.hid (fun wr kq => Chg.trans kw (Chg.mono kq (fun x hx => ⟨Nat.lt_of_lt_of_le hx.1 kw.size, fun hi => by have h1 := (HQB.out x hi).1; have h2 := hx.1; exact absurd h2 (Nat.not_lt.2 h1)⟩)))
      have MIH : Hid (∀ wr, Exq qs wo wr → MapI wr b S.length (posK S S.length)) := Lib.hid (fun wr kq => MI.chg kq ⟨MI.lt, fun hi => by have h1 := (HQB.out b hi).1; omega⟩)
      have KW := Lib.hid kw
      have hzo := kw.size
      clear hk hlt kw MI
      have wrm : IntKind.i64.wrap ((m : Int) + 1) = (m : Int) + 1 := IntWalk.i64_in _ (by omega)
      go_wp2_with fail
      go_loopw [53] (fun i wr => B2Rel S M1 w1.heap.size (.slice ao S.length co) qs wo i wr) (fun i _ => M1 - (intOf i).toNat)
      case atStart => exact ⟨0, by omega, rfl, OQ, Exq.refl _ _⟩
      case round =>
        clear OQ
        obtain ⟨j, hj, rfl, OQ, kq⟩ := hrel
        obtain ⟨wj, rfl⟩ : ∃ wj : World, wj = wr := ⟨_, rfl⟩
        by_cases hjm : j < M1
        · have hjm1 : (j : Int) < (m : Int) + 1 := by have := HM1.out; omega
          have SSj := (SSB.out.nxb (KT.out _ kq)).sl
          have TGj : TabG wj := HT1.out.chg (KT.out _ kq) ⟨HT1.out.lt, by have := hTb.out; omega⟩
          have OQH := Lib.hid OQ
          have KQ := Lib.hid kq
          have hzj := kq.size
          have HLI := Lib.hid (lists_in (S := S) (h := (j : Int)))
          have HLS := Lib.hid (lists_sm (h := (j : Int)) hnS)
          have HPB : Hid (procB S (j + 1) = procL j (listsN S (j : Int)) (procB S j)) := Lib.hid rfl
          clear OQ kq
          go_wp2_with fail
          (with_reducible refine (lists_p _ _ _ _ _ _ SSj hnS hcS hmS SW.out TGj).mono ?_)
          rintro e w5 ⟨vl, ql, rfl, OL, k5⟩
          obtain ⟨aL, cL, rfl, LT⟩ := OwnIL.ilt OL
          obtain ⟨M, hM⟩ : ∃ M, M = listsN S (j : Int) := ⟨_, rfl⟩
          rw [← hM] at LT HLI HLS HPB ⊢
          have LT := Lib.hid LT
          have OQ := OwnN.nx OQH.out k5
          have K5 := Lib.hid k5
          have hz5 := k5.size
          have hMl := HLS.out.1
          have KL : Hid (∀ u v, w5.heap.size ≤ u.heap.size → Exq qs u v → Chg (fun k => wj.heap.size ≤ k ∧ k < w5.heap.size) u v) := Lib.hid (fun u v hu kq => Chg.mono kq (fun x hx => ⟨Nat.lt_of_lt_of_le hx.2 hu, fun hi => by have h1 := (HQB.out x hi).2; have h2 := hx.1; omega⟩))
          clear OL k5 SSj TGj hM
          go_wp2_with fail
          go_loopw [60] (fun i wr => B3Rel S M1 w1.heap.size j M (.slice ao S.length co) qs w5 i wr) (fun i _ => M.length - (intOf i).toNat)
          case atStart => exact ⟨0, by omega, rfl, OQ, Exq.refl _ _⟩
          case round =>
            clear OQ
            obtain ⟨q, hq, rfl, OQ, k3⟩ := hrel
            obtain ⟨wq3, rfl⟩ : ∃ wq3 : World, wq3 = wr := ⟨_, rfl⟩
            by_cases hqm : q < M.length
            · obtain ⟨x3, o3, a', n', c', cc, rfl, hx3, hcc, hcell, hids⟩ := (LT.out.chg (KL.out _ _ (Nat.le_refl _) k3)).at hqm
              have hnl := hids.1
              subst hnl
              have hcl : cc.length ≤ 1000 := HLS.out.2 cc (List.mem_of_getElem? hcc)
              have HIN := Lib.hid (HLI.out cc (List.mem_of_getElem? hcc))
              have PS := Lib.hid (procL_snoc j M (procB S j) q cc hcc)
              have hz3 := k3.size
              have HID := Lib.hid hids
              have K3 := Lib.hid k3
              obtain ⟨F, hF⟩ : ∃ F, F = procL j (M.take q) (procB S j) := ⟨_, rfl⟩
              rw [← hF] at OQ PS
              clear hcc hids k3 hF
              go_wp2_with fail
              clear hcell
              go_loopw [15] (fun i wr => B4Rel S M1 w1.heap.size j cc F (.slice ao S.length co) qs wq3 i wr) (fun i _ => cc.length - (intOf i).toNat)
              case atStart => exact ⟨0, .inr rfl, rfl, OQ, Exq.refl _ _⟩
              case round =>
                clear OQ
                obtain ⟨r, hr, rfl, OQ, k4⟩ := hrel
                obtain ⟨wi, rfl⟩ : ∃ wi : World, wi = wr := ⟨_, rfl⟩
                by_cases hrm : r + 1 < cc.length
                · have k4d : Exq qs wq3 wi.drew := k4.nx (Ex.refl wi).drew
                  have OQ := OwnN.nx OQ (Ex.refl wi).drew
                  have RI := HID.out.chg (KL.out _ _ hz3 k4d) (fun _ x => x)
                  obtain ⟨x6, o6, i1, rfl, hx6, hi1, hc6⟩ := RI.at hrm
                  obtain ⟨x7, o7, i0, e67, _, hi0, hc7⟩ := RI.at (show r < cc.length by omega)
                  cases e67
                  have E1 : wi.drew.cell? ⟨x6, o6 + (r + 1), none⟩ = some (.int .i64 i1) := by simpa using hc6 0 _ rfl
                  have E0 : wi.drew.cell? ⟨x6, o6 + r, none⟩ = some (.int .i64 i0) := by simpa using hc7 0 _ rfl
                  obtain ⟨p1, y1, hp1, hy1⟩ := mem_at (HIN.out i1 (List.mem_of_getElem? hi1))
                  obtain ⟨p0, y0, hp0, hy0⟩ := mem_at (HIN.out i0 (List.mem_of_getElem? hi0))
                  have PP : Hid (procI cc j F (r + 1) = updR (updL (procI cc j F r) i1 j i0) i0 j i1) := Lib.hid (by rw [← atI_of hi1, ← atI_of hi0]; rfl)
                  obtain ⟨FF, hFF⟩ : ∃ FF, FF = procI cc j F r := ⟨_, rfl⟩
                  rw [← hFF] at OQ PP
                  have b1 := SOK.out _ (List.mem_of_getElem? hp1)
                  have b0 := SOK.out _ (List.mem_of_getElem? hp0)
                  rw [hy1] at b1
                  rw [hy0] at b0
                  have hq1 := posK_at ID.out S.length p1 y1 (List.getElem?_eq_some_iff.1 hp1).1 (Nat.le_refl _) hp1
                  have hq0 := posK_at ID.out S.length p0 y0 (List.getElem?_eq_some_iff.1 hp0).1 (Nat.le_refl _) hp0
                  have hl1 := (List.getElem?_eq_some_iff.1 hp1).1
                  have hl0 := (List.getElem?_eq_some_iff.1 hp0).1
                  rw [hy1] at hq1
                  rw [hy0] at hq0
                  have KK := KQ.out.nxq ((Exq.of_ex K5.out).nxq (K3.out.nxq k4d))
                  have LK1 : Hid (∀ wq, Exq qs wi.drew wq → (Instr.lookup 108 (.map (some b)) (.int .i64 i1) false).run Tryz.prog wq = .ok (.int .i64 (p1 : Int)) wq) := Lib.hid (fun wq hSw => by
                    have := (MIH.out wq (KK.nxq hSw)).look (x := i1) (by omega)
                    rwa [hq1] at this)
                  have LK0 : Hid (∀ wq, Exq qs wi.drew wq → (Instr.lookup 108 (.map (some b)) (.int .i64 i0) false).run Tryz.prog wq = .ok (.int .i64 (p0 : Int)) wq) := Lib.hid (fun wq hSw => by
                    have := (MIH.out wq (KK.nxq hSw)).look (x := i0) (by omega)
                    rwa [hq0] at this)
                  have NX : Hid (x6 < wi.drew.heap.size ∧ ¬ InQ qs x6) := Lib.hid ⟨by have := k4d.size; have := hx6.2; omega, fun hi => by have h1 := (HQB.out x6 hi).2; have h2 := hx6.1; omega⟩
                  obtain ⟨g, cap, g1, cap1, ev, hgl, hgq, hc1, hin1, ⟨u10, hu10⟩, ⟨u11, hu11⟩, f10, f11, OU1, OV1⟩ := rows_at ID.out OQ hp1 hjm
                  cases ev
                  rw [hy1] at OU1
                  have OQ1 := OU1 i0
                  have ks1 : Exq qs wi.drew (wi.drew.setCell ⟨g1, j * 2, none⟩ (.int .i64 i0)) := (Exq.refl _ _).set _ hin1
                  obtain ⟨g', cap', g0, cap0, ev, hgl', hgq', hc0, hin0, ⟨u00, hu00⟩, ⟨u01, hu01⟩, f00, f01, OU0, OV0⟩ := rows_at ID.out (OwnN.nx OQ1 (Ex.refl _).drew) hp0 hjm
                  cases ev
                  rw [hy0] at OV0
                  have OQ0 := Lib.hid (OV0 i1)
                  have NG : Hid (g < wi.drew.heap.size ∧ ¬ InQ qs g) := Lib.hid ⟨hgl, hgq⟩
                  have NG' : Hid (g < (wi.drew.setCell ⟨g1, j * 2, none⟩ (.int .i64 i0)).drew.heap.size ∧ ¬ InQ qs g) := Lib.hid ⟨hgl', hgq⟩
                  have HE1 := Lib.hid E1
                  have HE0 := Lib.hid E0
                  have HC1 := Lib.hid hc1
                  have KS1 := Lib.hid ks1
                  have KS1d : Hid (Exq qs wi.drew (wi.drew.setCell ⟨g1, j * 2, none⟩ (.int .i64 i0)).drew) := Lib.hid (ks1.nx (Ex.refl _).drew)
                  have HC0 : Hid (wi.drew.cell? ⟨g, p0 * 2 + 1, none⟩ = some (.slice (some ⟨g0, 0, none⟩) M1 cap0)) := Lib.hid ((Chg.cell (p := ⟨g, p0 * 2 + 1, none⟩) KS1d.out NG.out).symm.trans hc0)
                  have IN1 := Lib.hid hin1
                  have IN0 := Lib.hid hin0
                  have ST1 := Lib.hid (And.intro hu10 f10)
                  obtain ⟨gx, capx, g0', cap0', ev, _, _, hc0', _, _, ⟨u01', hu01'⟩, _, f01', _, _⟩ := rows_at ID.out OQ hp0 hjm
                  cases ev
                  have hg00 : g0 = g0' := by
                    have := hc0'.symm.trans HC0.out
                    simp at this
                    exact this.1.symm
                  subst hg00
                  have ST0 : Hid (wi.cell? ⟨g0, j * 2 + 1, none⟩ = some u01' ∧ wi.frozen? ⟨g0, j * 2 + 1, none⟩ = false) := Lib.hid ⟨hu01', f01'⟩
                  clear hc0' hu01' f01'
                  have K4D := Lib.hid k4d
                  have wr1 : IntKind.i64.wrap ((r : Int) + 1 + 1) = (r : Int) + 1 + 1 := IntWalk.i64_in _ (by omega)
                  have hrm1 : (r : Int) + 1 < (cc.length : Int) := by omega
                  have wr0 : IntKind.i64.wrap (r : Int) = (r : Int) := IntWalk.i64_in _ (by omega)
                  have hr01 : (0 : Int) ≤ (r : Int) + 1 := by omega
                  have hrm0 : (r : Int) < (cc.length : Int) := by omega
                  have hp1S : (p1 : Int) < (S.length : Int) := by omega
                  have hp0S : (p0 : Int) < (S.length : Int) := by omega
                  have hjM : (j : Int) < (M1 : Int) := by omega
                  clear hFF b1 b0 hq1 hq0 hy1 hy0 hp1 hp0 hc6 hc7 hi0 hi1 E1 E0 OU1 OV1 OU0 OV0 OQ OQ1 ks1 hgl hgq hgl' hgq' hc1 hc0 hin1 hin0 hu10 hu11 hu00 hu01 f10 f11 f00 f01 RI k4 k4d hx6 KK
                  go_wp2_with fail
                  refine wp_region_held_drew (S := Exq qs wi.drew) (by kernel_rfl) (Exq.refl _ _) (fun hHeld => ?_)
                  refine wpAnyH_take (i := 0) (oi := ⟨some 70, .move (.tmp 9), 71, "ideal.go:84", #[], none⟩) (v := ?_) rfl (by kernel_rfl) (by kernel_rfl) (by kernel_rfl) (fun _ _ _ h => h) (Or.inl ⟨by rfl, ?hyr2x0q1⟩) (by assumption) ?restr2x0q1
                  case hyr2x0q1 => intro wq hSw; (go_simp); (try with_reducible rfl)
                  try simp only [Act.put, List.setIfInBounds_toArray, List.set_cons_zero, List.set_cons_succ]
                  refine wpAnyH_take (i := 1) (oi := ⟨some 71, .move (.tmp 8), 108, "ideal.go:84", #[], none⟩) (v := ?_) rfl (by kernel_rfl) (by kernel_rfl) (by kernel_rfl) (fun _ _ _ h => h) (Or.inl ⟨by rfl, ?hyr2x1q4⟩) (by assumption) ?restr2x1q4
                  case hyr2x1q4 => intro wq hSw; (go_simp); (try with_reducible rfl)
                  try simp only [Act.put, List.setIfInBounds_toArray, List.set_cons_zero, List.set_cons_succ]
                  refine wpAnyH_take (i := 2) (oi := ⟨some 72, .move (.tmp 14), 22, "ideal.go:84", #[], none⟩) (v := ?_) rfl (by kernel_rfl) (by kernel_rfl) (by kernel_rfl) (fun _ _ _ h => h) (Or.inl ⟨by rfl, ?hyr2x2q7⟩) (by assumption) ?restr2x2q7
                  case hyr2x2q7 => intro wq hSw; (go_simp); (try with_reducible rfl)
                  try simp only [Act.put, List.setIfInBounds_toArray, List.set_cons_zero, List.set_cons_succ]
                  refine wpAnyH_take (i := 3) (oi := ⟨some 73, .move (.tmp 15), 3, "ideal.go:84", #[], none⟩) (v := ?_) rfl (by kernel_rfl) (by kernel_rfl) (by kernel_rfl) (fun _ _ _ h => h) (Or.inl ⟨by rfl, ?hyr2x3q10⟩) (by assumption) ?restr2x3q10
                  case hyr2x3q10 => intro wq hSw; (go_simp); (try with_reducible rfl)
                  try simp only [Act.put, List.setIfInBounds_toArray, List.set_cons_zero, List.set_cons_succ]
                  refine wpAnyH_take (i := 4) (oi := ⟨some 74, .indexAddr 22 (.tmp 72) (.tmp 73), 0, "ideal.go:84", #[⟨2, .data⟩, ⟨3, .data⟩], none⟩) (v := ?_) rfl (by kernel_rfl) (by kernel_rfl) (by kernel_rfl) (fun _ _ _ h => h) (Or.inl ⟨by rfl, ?hyr2x4q13⟩) (by assumption) ?restr2x4q13
                  case hyr2x4q13 => intro wq hSw; (go_simp); (try with_reducible rfl)
                  try simp only [Act.put, List.setIfInBounds_toArray, List.set_cons_zero, List.set_cons_succ]
                  refine wpAnyH_take (i := 5) (oi := ⟨some 75, .load 3 (.tmp 74), 3, "ideal.go:84", #[⟨4, .data⟩], none⟩) (v := ?_) rfl (by kernel_rfl) (by kernel_rfl) (by kernel_rfl) (fun _ _ _ h => h) (Or.inl ⟨by rfl, ?hyr2x5q16⟩) (by assumption) ?restr2x5q16
                  case hyr2x5q16 => intro wq hSw; (have cq := Chg.cellv hSw HE1.out NX.out; go_simp); (try with_reducible rfl)
                  try simp only [Act.put, List.setIfInBounds_toArray, List.set_cons_zero, List.set_cons_succ]
                  refine wpAnyH_take (i := 6) (oi := ⟨some 76, .lookup 108 (.tmp 71) (.tmp 75) false, 3, "ideal.go:84", #[⟨1, .data⟩, ⟨5, .data⟩], none⟩) (v := ?_) rfl (by kernel_rfl) (by kernel_rfl) (by kernel_rfl) (fun _ _ _ h => h) (Or.inl ⟨by rfl, ?hyr2x6q19⟩) (by assumption) ?restr2x6q19
                  case hyr2x6q19 => intro wq hSw; (have cq := LK1.out _ hSw; go_simp); (try with_reducible rfl)
                  try simp only [Act.put, List.setIfInBounds_toArray, List.set_cons_zero, List.set_cons_succ]
                  refine wpAnyH_take (i := 7) (oi := ⟨some 77, .indexAddr 71 (.tmp 70) (.tmp 76), 0, "ideal.go:84", #[⟨0, .data⟩, ⟨6, .data⟩], none⟩) (v := ?_) rfl (by kernel_rfl) (by kernel_rfl) (by kernel_rfl) (fun _ _ _ h => h) (Or.inl ⟨by rfl, ?hyr2x7q22⟩) (by assumption) ?restr2x7q22
                  case hyr2x7q22 => intro wq hSw; (go_simp); (try with_reducible rfl)
                  try simp only [Act.put, List.setIfInBounds_toArray, List.set_cons_zero, List.set_cons_succ]
                  refine wpAnyH_take (i := 8) (oi := ⟨some 78, .fieldAddr 102 (.tmp 77) 1, 0, "ideal.go:84", #[⟨7, .data⟩], none⟩) (v := ?_) rfl (by kernel_rfl) (by kernel_rfl) (by kernel_rfl) (fun _ _ _ h => h) (Or.inl ⟨by rfl, ?hyr2x8q25⟩) (by assumption) ?restr2x8q25
                  case hyr2x8q25 => intro wq hSw; (go_simp); (try with_reducible rfl)
                  try simp only [Act.put, List.setIfInBounds_toArray, List.set_cons_zero, List.set_cons_succ]
                  refine wpAnyH_take (i := 9) (oi := ⟨some 79, .load 100 (.tmp 78), 100, "ideal.go:84", #[⟨8, .data⟩], none⟩) (v := ?_) rfl (by kernel_rfl) (by kernel_rfl) (by kernel_rfl) (fun _ _ _ h => h) (Or.inl ⟨by rfl, ?hyr2x9q28⟩) (by assumption) ?restr2x9q28
                  case hyr2x9q28 => intro wq hSw; (have cq := Chg.cellv hSw HC1.out NG.out; go_simp); (try with_reducible rfl)
                  try simp only [Act.put, List.setIfInBounds_toArray, List.set_cons_zero, List.set_cons_succ]
                  refine wpAnyH_take (i := 10) (oi := ⟨some 80, .move (.tmp 12), 3, "ideal.go:84", #[], none⟩) (v := ?_) rfl (by kernel_rfl) (by kernel_rfl) (by kernel_rfl) (fun _ _ _ h => h) (Or.inl ⟨by rfl, ?hyr2x10q31⟩) (by assumption) ?restr2x10q31
                  case hyr2x10q31 => intro wq hSw; (go_simp); (try with_reducible rfl)
                  try simp only [Act.put, List.setIfInBounds_toArray, List.set_cons_zero, List.set_cons_succ]
                  refine wpAnyH_take (i := 11) (oi := ⟨some 81, .move (.tmp 14), 22, "ideal.go:84", #[], none⟩) (v := ?_) rfl (by kernel_rfl) (by kernel_rfl) (by kernel_rfl) (fun _ _ _ h => h) (Or.inl ⟨by rfl, ?hyr2x11q34⟩) (by assumption) ?restr2x11q34
                  case hyr2x11q34 => intro wq hSw; (go_simp); (try with_reducible rfl)
                  try simp only [Act.put, List.setIfInBounds_toArray, List.set_cons_zero, List.set_cons_succ]
                  refine wpAnyH_take (i := 12) (oi := ⟨some 82, .move (.tmp 15), 3, "ideal.go:84", #[], none⟩) (v := ?_) rfl (by kernel_rfl) (by kernel_rfl) (by kernel_rfl) (fun _ _ _ h => h) (Or.inl ⟨by rfl, ?hyr2x12q37⟩) (by assumption) ?restr2x12q37
                  case hyr2x12q37 => intro wq hSw; (go_simp); (try with_reducible rfl)
                  try simp only [Act.put, List.setIfInBounds_toArray, List.set_cons_zero, List.set_cons_succ]
                  refine wpAnyH_take (i := 13) (oi := ⟨some 83, .binOp .sub 3 (.tmp 82) (.const (.int .i64 1)) 3, 3, "ideal.go:84", #[⟨12, .data⟩], none⟩) (v := ?_) rfl (by kernel_rfl) (by kernel_rfl) (by kernel_rfl) (fun _ _ _ h => h) (Or.inl ⟨by rfl, ?hyr2x13q40⟩) (by assumption) ?restr2x13q40
                  case hyr2x13q40 => intro wq hSw; (go_simp); (try with_reducible rfl)
                  try simp only [Act.put, List.setIfInBounds_toArray, List.set_cons_zero, List.set_cons_succ]
                  refine wpAnyH_take (i := 14) (oi := ⟨some 84, .indexAddr 22 (.tmp 81) (.tmp 83), 0, "ideal.go:84", #[⟨11, .data⟩, ⟨13, .data⟩], none⟩) (v := ?_) rfl (by kernel_rfl) (by kernel_rfl) (by kernel_rfl) (fun _ _ _ h => h) (Or.inl ⟨by rfl, ?hyr2x14q43⟩) (by assumption) ?restr2x14q43
                  case hyr2x14q43 => intro wq hSw; (go_simp); (try with_reducible rfl)
                  try simp only [Act.put, List.setIfInBounds_toArray, List.set_cons_zero, List.set_cons_succ]
                  refine wpAnyH_take (i := 15) (oi := ⟨some 85, .load 3 (.tmp 84), 3, "ideal.go:84", #[⟨14, .data⟩], none⟩) (v := ?_) rfl (by kernel_rfl) (by kernel_rfl) (by kernel_rfl) (fun _ _ _ h => h) (Or.inl ⟨by rfl, ?hyr2x15q46⟩) (by assumption) ?restr2x15q46
                  case hyr2x15q46 => intro wq hSw; (have cq := Chg.cellv hSw HE0.out NX.out; go_simp); (try with_reducible rfl)
                  try simp only [Act.put, List.setIfInBounds_toArray, List.set_cons_zero, List.set_cons_succ]
                  refine wpAnyH_take (i := 16) (oi := ⟨some 86, .indexAddr 100 (.tmp 79) (.tmp 80), 0, "ideal.go:84", #[⟨9, .data⟩, ⟨10, .data⟩, ⟨0, .phase⟩, ⟨1, .phase⟩, ⟨2, .phase⟩, ⟨3, .phase⟩, ⟨4, .phase⟩, ⟨5, .phase⟩, ⟨6, .phase⟩, ⟨7, .phase⟩, ⟨8, .phase⟩, ⟨9, .phase⟩, ⟨10, .phase⟩, ⟨11, .phase⟩, ⟨12, .phase⟩, ⟨13, .phase⟩, ⟨14, .phase⟩, ⟨15, .phase⟩], none⟩) (v := ?_) rfl (by kernel_rfl) (by kernel_rfl) (by kernel_rfl) (fun _ _ _ h => h) (Or.inl ⟨by rfl, ?hyr2x16q49⟩) (by assumption) ?restr2x16q49
                  case hyr2x16q49 => intro wq hSw; (go_simp); (try with_reducible rfl)
                  try simp only [Act.put, List.setIfInBounds_toArray, List.set_cons_zero, List.set_cons_succ]
                  refine wpAnyH_take (i := 17) (oi := ⟨some 87, .fieldAddr 65 (.tmp 86) 0, 0, "ideal.go:84", #[⟨16, .data⟩, ⟨0, .phase⟩, ⟨1, .phase⟩, ⟨2, .phase⟩, ⟨3, .phase⟩, ⟨4, .phase⟩, ⟨5, .phase⟩, ⟨6, .phase⟩, ⟨7, .phase⟩, ⟨8, .phase⟩, ⟨9, .phase⟩, ⟨10, .phase⟩, ⟨11, .phase⟩, ⟨12, .phase⟩, ⟨13, .phase⟩, ⟨14, .phase⟩, ⟨15, .phase⟩], none⟩) (v := ?_) rfl (by kernel_rfl) (by kernel_rfl) (by kernel_rfl) (fun _ _ _ h => h) (Or.inl ⟨by rfl, ?hyr2x17q52⟩) (by assumption) ?restr2x17q52
                  case hyr2x17q52 => intro wq hSw; (go_simp); (try with_reducible rfl)
                  try simp only [Act.put, List.setIfInBounds_toArray, List.set_cons_zero, List.set_cons_succ]
                  refine wpAnyH_ready (rs := [18]) (by kernel_rfl) (by simp) ?_
                  refine AllReadyH.cons (o := ⟨none, .store 3 (.tmp 87) (.tmp 85), 0, "ideal.go:84", #[⟨17, .data⟩, ⟨15, .data⟩, ⟨0, .phase⟩, ⟨1, .phase⟩, ⟨2, .phase⟩, ⟨3, .phase⟩, ⟨4, .phase⟩, ⟨5, .phase⟩, ⟨6, .phase⟩, ⟨7, .phase⟩, ⟨8, .phase⟩, ⟨9, .phase⟩, ⟨10, .phase⟩, ⟨11, .phase⟩, ⟨12, .phase⟩, ⟨13, .phase⟩, ⟨14, .phase⟩, ⟨15, .phase⟩], none⟩) rfl (fun K hK => ?_) AllReadyH.nil
                  have st := ST1.out
                  go_simp
                  refine hK.out _ _ (KS1.out) (fun hHeld => ?_)
                  clear hK K
                  try simp only [Act.put, List.setIfInBounds_toArray, List.set_cons_zero, List.set_cons_succ]
                  refine wpAnyH_done (by kernel_rfl) ?_ _
                  go_wp2_with fail
                  refine wp_region_held_drew (S := Exq qs wi.drew) (by kernel_rfl) (KS1d.out) (fun hHeld => ?_)
                  refine wpAnyH_take (i := 0) (oi := ⟨some 88, .move (.tmp 9), 71, "ideal.go:85", #[], none⟩) (v := ?_) rfl (by kernel_rfl) (by kernel_rfl) (by kernel_rfl) (fun _ _ _ h => h) (Or.inl ⟨by rfl, ?hyr3x0q1⟩) (by assumption) ?restr3x0q1
                  case hyr3x0q1 => intro wq hSw; (go_simp); (try with_reducible rfl)
                  try simp only [Act.put, List.setIfInBounds_toArray, List.set_cons_zero, List.set_cons_succ]
                  refine wpAnyH_take (i := 1) (oi := ⟨some 89, .move (.tmp 8), 108, "ideal.go:85", #[], none⟩) (v := ?_) rfl (by kernel_rfl) (by kernel_rfl) (by kernel_rfl) (fun _ _ _ h => h) (Or.inl ⟨by rfl, ?hyr3x1q4⟩) (by assumption) ?restr3x1q4
                  case hyr3x1q4 => intro wq hSw; (go_simp); (try with_reducible rfl)
                  try simp only [Act.put, List.setIfInBounds_toArray, List.set_cons_zero, List.set_cons_succ]
                  refine wpAnyH_take (i := 2) (oi := ⟨some 90, .move (.tmp 14), 22, "ideal.go:85", #[], none⟩) (v := ?_) rfl (by kernel_rfl) (by kernel_rfl) (by kernel_rfl) (fun _ _ _ h => h) (Or.inl ⟨by rfl, ?hyr3x2q7⟩) (by assumption) ?restr3x2q7
                  case hyr3x2q7 => intro wq hSw; (go_simp); (try with_reducible rfl)
                  try simp only [Act.put, List.setIfInBounds_toArray, List.set_cons_zero, List.set_cons_succ]
                  refine wpAnyH_take (i := 3) (oi := ⟨some 91, .move (.tmp 15), 3, "ideal.go:85", #[], none⟩) (v := ?_) rfl (by kernel_rfl) (by kernel_rfl) (by kernel_rfl) (fun _ _ _ h => h) (Or.inl ⟨by rfl, ?hyr3x3q10⟩) (by assumption) ?restr3x3q10
                  case hyr3x3q10 => intro wq hSw; (go_simp); (try with_reducible rfl)
                  try simp only [Act.put, List.setIfInBounds_toArray, List.set_cons_zero, List.set_cons_succ]
                  refine wpAnyH_take (i := 4) (oi := ⟨some 92, .binOp .sub 3 (.tmp 91) (.const (.int .i64 1)) 3, 3, "ideal.go:85", #[⟨3, .data⟩], none⟩) (v := ?_) rfl (by kernel_rfl) (by kernel_rfl) (by kernel_rfl) (fun _ _ _ h => h) (Or.inl ⟨by rfl, ?hyr3x4q13⟩) (by assumption) ?restr3x4q13
                  case hyr3x4q13 => intro wq hSw; (go_simp); (try with_reducible rfl)
                  try simp only [Act.put, List.setIfInBounds_toArray, List.set_cons_zero, List.set_cons_succ]
                  refine wpAnyH_take (i := 5) (oi := ⟨some 93, .indexAddr 22 (.tmp 90) (.tmp 92), 0, "ideal.go:85", #[⟨2, .data⟩, ⟨4, .data⟩], none⟩) (v := ?_) rfl (by kernel_rfl) (by kernel_rfl) (by kernel_rfl) (fun _ _ _ h => h) (Or.inl ⟨by rfl, ?hyr3x5q16⟩) (by assumption) ?restr3x5q16
                  case hyr3x5q16 => intro wq hSw; (go_simp); (try with_reducible rfl)
                  try simp only [Act.put, List.setIfInBounds_toArray, List.set_cons_zero, List.set_cons_succ]
                  refine wpAnyH_take (i := 6) (oi := ⟨some 94, .load 3 (.tmp 93), 3, "ideal.go:85", #[⟨5, .data⟩], none⟩) (v := ?_) rfl (by kernel_rfl) (by kernel_rfl) (by kernel_rfl) (fun _ _ _ h => h) (Or.inl ⟨by rfl, ?hyr3x6q19⟩) (by assumption) ?restr3x6q19
                  case hyr3x6q19 => intro wq hSw; (have cq := Chg.cellv hSw HE0.out NX.out; go_simp); (try with_reducible rfl)
                  try simp only [Act.put, List.setIfInBounds_toArray, List.set_cons_zero, List.set_cons_succ]
                  refine wpAnyH_take (i := 7) (oi := ⟨some 95, .lookup 108 (.tmp 89) (.tmp 94) false, 3, "ideal.go:85", #[⟨1, .data⟩, ⟨6, .data⟩], none⟩) (v := ?_) rfl (by kernel_rfl) (by kernel_rfl) (by kernel_rfl) (fun _ _ _ h => h) (Or.inl ⟨by rfl, ?hyr3x7q22⟩) (by assumption) ?restr3x7q22
                  case hyr3x7q22 => intro wq hSw; (have cq := LK0.out _ hSw; go_simp); (try with_reducible rfl)
                  try simp only [Act.put, List.setIfInBounds_toArray, List.set_cons_zero, List.set_cons_succ]
                  refine wpAnyH_take (i := 8) (oi := ⟨some 96, .indexAddr 71 (.tmp 88) (.tmp 95), 0, "ideal.go:85", #[⟨0, .data⟩, ⟨7, .data⟩], none⟩) (v := ?_) rfl (by kernel_rfl) (by kernel_rfl) (by kernel_rfl) (fun _ _ _ h => h) (Or.inl ⟨by rfl, ?hyr3x8q25⟩) (by assumption) ?restr3x8q25
                  case hyr3x8q25 => intro wq hSw; (go_simp); (try with_reducible rfl)
                  try simp only [Act.put, List.setIfInBounds_toArray, List.set_cons_zero, List.set_cons_succ]
                  refine wpAnyH_take (i := 9) (oi := ⟨some 97, .fieldAddr 102 (.tmp 96) 1, 0, "ideal.go:85", #[⟨8, .data⟩], none⟩) (v := ?_) rfl (by kernel_rfl) (by kernel_rfl) (by kernel_rfl) (fun _ _ _ h => h) (Or.inl ⟨by rfl, ?hyr3x9q28⟩) (by assumption) ?restr3x9q28
                  case hyr3x9q28 => intro wq hSw; (go_simp); (try with_reducible rfl)
                  try simp only [Act.put, List.setIfInBounds_toArray, List.set_cons_zero, List.set_cons_succ]
                  refine wpAnyH_take (i := 10) (oi := ⟨some 98, .load 100 (.tmp 97), 100, "ideal.go:85", #[⟨9, .data⟩], none⟩) (v := ?_) rfl (by kernel_rfl) (by kernel_rfl) (by kernel_rfl) (fun _ _ _ h => h) (Or.inl ⟨by rfl, ?hyr3x10q31⟩) (by assumption) ?restr3x10q31
                  case hyr3x10q31 => intro wq hSw; (have cq := Chg.cellv hSw HC0.out NG.out; go_simp); (try with_reducible rfl)
                  try simp only [Act.put, List.setIfInBounds_toArray, List.set_cons_zero, List.set_cons_succ]
                  refine wpAnyH_take (i := 11) (oi := ⟨some 99, .move (.tmp 12), 3, "ideal.go:85", #[], none⟩) (v := ?_) rfl (by kernel_rfl) (by kernel_rfl) (by kernel_rfl) (fun _ _ _ h => h) (Or.inl ⟨by rfl, ?hyr3x11q34⟩) (by assumption) ?restr3x11q34
                  case hyr3x11q34 => intro wq hSw; (go_simp); (try with_reducible rfl)
                  try simp only [Act.put, List.setIfInBounds_toArray, List.set_cons_zero, List.set_cons_succ]
                  refine wpAnyH_take (i := 12) (oi := ⟨some 100, .move (.tmp 14), 22, "ideal.go:85", #[], none⟩) (v := ?_) rfl (by kernel_rfl) (by kernel_rfl) (by kernel_rfl) (fun _ _ _ h => h) (Or.inl ⟨by rfl, ?hyr3x12q37⟩) (by assumption) ?restr3x12q37
                  case hyr3x12q37 => intro wq hSw; (go_simp); (try with_reducible rfl)
                  try simp only [Act.put, List.setIfInBounds_toArray, List.set_cons_zero, List.set_cons_succ]
                  refine wpAnyH_take (i := 13) (oi := ⟨some 101, .move (.tmp 15), 3, "ideal.go:85", #[], none⟩) (v := ?_) rfl (by kernel_rfl) (by kernel_rfl) (by kernel_rfl) (fun _ _ _ h => h) (Or.inl ⟨by rfl, ?hyr3x13q40⟩) (by assumption) ?restr3x13q40
                  case hyr3x13q40 => intro wq hSw; (go_simp); (try with_reducible rfl)
                  try simp only [Act.put, List.setIfInBounds_toArray, List.set_cons_zero, List.set_cons_succ]
                  refine wpAnyH_take (i := 14) (oi := ⟨some 102, .indexAddr 22 (.tmp 100) (.tmp 101), 0, "ideal.go:85", #[⟨12, .data⟩, ⟨13, .data⟩], none⟩) (v := ?_) rfl (by kernel_rfl) (by kernel_rfl) (by kernel_rfl) (fun _ _ _ h => h) (Or.inl ⟨by rfl, ?hyr3x14q43⟩) (by assumption) ?restr3x14q43
                  case hyr3x14q43 => intro wq hSw; (go_simp); (try with_reducible rfl)
                  try simp only [Act.put, List.setIfInBounds_toArray, List.set_cons_zero, List.set_cons_succ]
                  refine wpAnyH_take (i := 15) (oi := ⟨some 103, .load 3 (.tmp 102), 3, "ideal.go:85", #[⟨14, .data⟩], none⟩) (v := ?_) rfl (by kernel_rfl) (by kernel_rfl) (by kernel_rfl) (fun _ _ _ h => h) (Or.inl ⟨by rfl, ?hyr3x15q46⟩) (by assumption) ?restr3x15q46
                  case hyr3x15q46 => intro wq hSw; (have cq := Chg.cellv hSw HE1.out NX.out; go_simp); (try with_reducible rfl)
                  try simp only [Act.put, List.setIfInBounds_toArray, List.set_cons_zero, List.set_cons_succ]
                  refine wpAnyH_take (i := 16) (oi := ⟨some 104, .indexAddr 100 (.tmp 98) (.tmp 99), 0, "ideal.go:85", #[⟨10, .data⟩, ⟨11, .data⟩, ⟨0, .phase⟩, ⟨1, .phase⟩, ⟨2, .phase⟩, ⟨3, .phase⟩, ⟨4, .phase⟩, ⟨5, .phase⟩, ⟨6, .phase⟩, ⟨7, .phase⟩, ⟨8, .phase⟩, ⟨9, .phase⟩, ⟨10, .phase⟩, ⟨11, .phase⟩, ⟨12, .phase⟩, ⟨13, .phase⟩, ⟨14, .phase⟩, ⟨15, .phase⟩], none⟩) (v := ?_) rfl (by kernel_rfl) (by kernel_rfl) (by kernel_rfl) (fun _ _ _ h => h) (Or.inl ⟨by rfl, ?hyr3x16q49⟩) (by assumption) ?restr3x16q49
                  case hyr3x16q49 => intro wq hSw; (go_simp); (try with_reducible rfl)
                  try simp only [Act.put, List.setIfInBounds_toArray, List.set_cons_zero, List.set_cons_succ]
                  refine wpAnyH_take (i := 17) (oi := ⟨some 105, .fieldAddr 65 (.tmp 104) 1, 0, "ideal.go:85", #[⟨16, .data⟩, ⟨0, .phase⟩, ⟨1, .phase⟩, ⟨2, .phase⟩, ⟨3, .phase⟩, ⟨4, .phase⟩, ⟨5, .phase⟩, ⟨6, .phase⟩, ⟨7, .phase⟩, ⟨8, .phase⟩, ⟨9, .phase⟩, ⟨10, .phase⟩, ⟨11, .phase⟩, ⟨12, .phase⟩, ⟨13, .phase⟩, ⟨14, .phase⟩, ⟨15, .phase⟩], none⟩) (v := ?_) rfl (by kernel_rfl) (by kernel_rfl) (by kernel_rfl) (fun _ _ _ h => h) (Or.inl ⟨by rfl, ?hyr3x17q52⟩) (by assumption) ?restr3x17q52
                  case hyr3x17q52 => intro wq hSw; (go_simp); (try with_reducible rfl)
                  try simp only [Act.put, List.setIfInBounds_toArray, List.set_cons_zero, List.set_cons_succ]
                  refine wpAnyH_ready (rs := [18]) (by kernel_rfl) (by simp) ?_
                  refine AllReadyH.cons (o := ⟨none, .store 3 (.tmp 105) (.tmp 103), 0, "ideal.go:85", #[⟨17, .data⟩, ⟨15, .data⟩, ⟨0, .phase⟩, ⟨1, .phase⟩, ⟨2, .phase⟩, ⟨3, .phase⟩, ⟨4, .phase⟩, ⟨5, .phase⟩, ⟨6, .phase⟩, ⟨7, .phase⟩, ⟨8, .phase⟩, ⟨9, .phase⟩, ⟨10, .phase⟩, ⟨11, .phase⟩, ⟨12, .phase⟩, ⟨13, .phase⟩, ⟨14, .phase⟩, ⟨15, .phase⟩], none⟩) rfl (fun K hK => ?_) AllReadyH.nil
                  have st := ST0.out
                  go_simp
                  refine hK.out _ _ (Exq.set (p := ⟨g0, j * 2 + 1, none⟩) KS1d.out _ IN0.out) (fun hHeld => ?_)
                  clear hK K
                  try simp only [Act.put, List.setIfInBounds_toArray, List.set_cons_zero, List.set_cons_succ]
                  refine wpAnyH_done (by kernel_rfl) ?_ _
                  go_wp2_with fail
                  exact ⟨⟨r + 1, by omega, by go_num, by rw [PP.out]; exact OQ0.out, K4D.out.nxq (Exq.set (p := ⟨g0, j * 2 + 1, none⟩) KS1d.out _ IN0.out)⟩, by simp [intOf]; omega⟩
                · obtain ⟨FF, hFF⟩ : ∃ FF, FF = procI cc j F r := ⟨_, rfl⟩
                  have hre : r = cc.length - 1 := by omega
                  rw [← hFF] at OQ
                  rw [hre] at hFF
                  rw [← hFF] at PS
                  have dlt : ¬ ((r : Int) + 1 < (cc.length : Int)) := by omega
                  have OQ := Lib.hid OQ
                  have k34 := K3.out.nxq k4
                  clear hFF hre hrm k4
                  go_wp2_with fail
                  exact ⟨⟨q + 1, by omega, by go_num, by rw [PS.out]; exact OQ.out, k34⟩, by simp [intOf]; omega⟩
            · obtain rfl : q = M.length := by omega
              rw [List.take_length, ← HPB.out] at OQ
              have OQ := Lib.hid OQ
              have kj := KQ.out.nxq ((Exq.of_ex K5.out).nxq k3)
              clear hqm hq k3
              go_wp2_with fail
              exact ⟨⟨j + 1, by omega, by go_num, OQ.out, kj⟩, by simp [intOf]; omega⟩
        · obtain rfl : j = M1 := by omega
          rw [← HLL.out] at OQ
          have OQ := Lib.hid (OwnN.base OQ (show w.heap.size ≤ w1.heap.size by omega))
          have KE : Ex w wj := Chg.trans K1.out (Chg.mono (KT.out _ kq) (fun x hx => ⟨Nat.lt_of_lt_of_le hx K1.out.size, by have : x < w.heap.size := hx; omega⟩))
          have dlt : ¬ ((j : Int) < (m : Int) + 1) := by have := HM1.out; omega
          clear hjm hj kq
          go_wp2_with fail
          go_ret2
          exact ⟨_, qs, rfl, OQ.out, KE⟩
end Go.Proofs.YtbnbjiddffihoaaGreatDoor

/- What Build of the package ideal lays is what the reference says. -/
namespace Go.Proofs.YtbnbjiddffihoaaGreatDoor
open Go.RowKit

theorem fil_fold {h : Int} (hh : h ≤ 16) (l : List Nd) (hl : ∀ y ∈ l, y.word < 4294967296) : ∀ c ∈ foldC h l, c = l.filter fun y => sameN (headW c) y.word h := by
  induction l using snoc_ind with
  | h0 => intro c hc; simp [foldC] at hc
  | h1 l x ih =>
    have hl' : ∀ y ∈ l, y.word < 4294967296 := fun y hy => hl y (List.mem_append_left _ hy)
    have hx : x.word < 4294967296 := hl x (by simp)
    have ih := ih hl'
    have H := (foldC_cnt hh l hl').1
    rw [foldC_append]
    generalize foldC h l = C at H ih
    have hw : ∀ c ∈ C, headW c < 4294967296 := fun c hc => by
      obtain ⟨y, hy, he⟩ := headW_mem (H.mem c hc).1
      rw [he]; exact hl' y ((H.mem c hc).2 y hy).1
    rcases stepC_cases h C x with ⟨hno, he⟩ | ⟨K, c, hc, hs, he⟩
    · rw [he]
      intro d hd
      rw [List.filter_append]
      rcases List.mem_append.1 hd with hd | hd
      · have h1 := hno d hd
        rw [← ih d hd]
        simp [h1]
      · obtain rfl := List.mem_singleton.1 hd
        have h1 : l.filter (fun y => sameN (headW [x]) y.word h) = [] := by
          rw [List.filter_eq_nil_iff]
          intro y hy hxy
          obtain ⟨c, hc, hyc⟩ := H.all y hy
          have := sameN_trans (hw c hc) (hl' y hy) hx ((H.mem c hc).2 y hyc).2 (sameN_symm hxy)
          rw [hno c hc] at this
          cases this
        rw [h1]
        have : sameN (headW [x]) x.word h = true := sameN_refl _ hh
        simp [this]
    · rw [he]
      intro d hd
      rw [List.filter_append]
      obtain ⟨i, hi⟩ := List.mem_iff_getElem?.1 hd
      have hcm := List.mem_of_getElem? hc
      by_cases hik : i = K
      · subst hik
        rw [List.getElem?_set_self (List.getElem?_eq_some_iff.1 hc).1] at hi
        cases hi
        rw [headW_snoc x (H.mem c hcm).1, ← ih c hcm]
        simp [hs]
      · rw [List.getElem?_set_ne (by omega)] at hi
        have hdm := List.mem_of_getElem? hi
        have h1 : sameN (headW d) x.word h = false := by
          cases hsd : sameN (headW d) x.word h with
          | false => rfl
          | true => exact absurd (H.heads i K d c hi hc (sameN_trans (hw d hdm) hx (hw c hcm) hsd (sameN_symm hs))) hik
        rw [← ih d hdm]
        simp [h1]
theorem sort_check {l : List Nd} (h : checkN l = 0) : checkN (sortN l) = 0 := by
  have hp := sortN_perm l
  unfold checkN at h ⊢
  split at h
  · omega
  rename_i hlen
  split at h
  · omega
  rename_i hbad
  split at h
  · omega
  rename_i hdup
  have h0 : checkN l = 0 := by unfold checkN; rw [if_neg hlen, if_neg hbad, if_neg hdup]
  rw [if_neg (by rw [hp.length_eq]; exact hlen), if_neg (by
    intro hb
    obtain ⟨x, hx, hxb⟩ := List.any_eq_true.1 hb
    exact hbad (List.any_eq_true.2 ⟨x, hp.mem_iff.1 hx, hxb⟩)), if_neg]
  intro hd
  obtain ⟨i, k, x, y, hki, hx, hy, he⟩ := (dupN_iff _).1 hd
  have := asc_at (sortN_str h0) hy hx hki
  unfold eqN at he
  rcases Bool.or_eq_true_iff.1 he with h1 | h1
  · exact this.2 (by simpa using (beq_iff_eq.1 h1).symm)
  · rw [beq_iff_eq.1 h1, bytesLess_irrefl] at this
    cases this.1
theorem sort_sort {l : List Nd} (h : checkN l = 0) : sortN (sortN l) = sortN l :=
  sortN_unique (check_keys h) ((sortN_perm _).trans (sortN_perm l)) (sortN_asc _)
theorem find_in {S : List Nd} (h : checkN S = 0) {x : Nd} (hx : x ∈ S) : findN S x.id = (x, true) := by
  have h2 : (findN S x.id).2 = true := by
    unfold findN
    cases e : S.find? (fun y => y.id == x.id) with
    | none => have := List.find?_eq_none.1 e x hx; simp at this
    | some y => rfl
  obtain ⟨h3, h4⟩ := findN_mem h2
  have h5 := ids_eq (check_keys h) h3 hx h4
  exact Prod.ext h5 h2
theorem procB_high (S : List Nd) (x : Int) (j : Nat) : ∀ k, k ≤ j → procB S k x j = (0, 0)
  | 0, _ => rfl
  | k + 1, hk => by
    show procL k (listsN S (k : Nat)) (procB S k) x j = _
    rw [procL_level _ _ _ _ _ (by omega)]
    exact procB_high S x j k (by omega)
theorem procB_low (S : List Nd) (x : Int) (j : Nat) : ∀ d, procB S (j + 1 + d) x j = procB S (j + 1) x j
  | 0 => rfl
  | d + 1 => by
    show procL (j + 1 + d) _ (procB S (j + 1 + d)) x j = _
    rw [procL_level _ _ _ _ _ (by omega)]
    exact procB_low S x j d
theorem atI_ids {c : List Nd} {q : Nat} (_ : q < c.length) : atI (idsN c) q = (c[q]?.getD Nd.zero).id := by
  unfold atI idsN
  rw [List.getElem?_map]
  cases h : c[q]? with
  | none => exact absurd (List.getElem?_eq_none_iff.1 h) (by omega)
  | some y => rfl
theorem build_at {l : List Nd} (h0 : checkN l = 0) (hw : ∀ x ∈ l, x.word < 4294967296) {x : Nd} (hx : x ∈ sortN l) {j : Nat} (hj : j ≤ 16) : procB (sortN l) (j + 1) x.id j = (neighN (sortN l) x.id (j : Nat)).1 := by
  obtain ⟨S, hS⟩ : ∃ S, S = sortN l := ⟨_, rfl⟩
  have hc := sort_check h0
  have hss := sort_sort h0
  have hA := sortN_str h0
  have hws : ∀ y ∈ S, y.word < 4294967296 := fun y hy => hw y ((sortN_mem l y).1 (hS ▸ hy))
  rw [← hS] at hx hc hss hA ⊢
  have hlv : lvlN (j : Int) = true := by unfold lvlN; simp; omega
  have hf := find_in hc hx
  have hL : listsN S (j : Int) = (foldC (j : Int) S).map idsN := by
    unfold listsN
    rw [if_pos ⟨by rw [hc]; rfl, hlv⟩, hss, classesN_fold (by omega)]
  obtain ⟨i, hi, _, hn⟩ := neighN_yes (l := S) (id := x.id) (h := (j : Int)) hc (by rw [hf]) hlv
  have HC := (foldC_cnt (show (j : Int) ≤ 16 by omega) S hws).1
  have HF := fil_fold (show (j : Int) ≤ 16 by omega) S hws
  have hth : thrG S x.id (j : Int) = groupN S (j : Int) x.word := by unfold thrG; rw [hss, hf]
  rw [hth] at hi hn
  rw [hf] at hi
  obtain ⟨c, hcm, hxc⟩ := HC.all x hx
  have hgc : groupN S (j : Int) x.word = c := by
    have hsx := ((HC.mem c hcm).2 x hxc).2
    obtain ⟨y0, hy0, he0⟩ := headW_mem (HC.mem c hcm).1
    have hwc : headW c < 4294967296 := by rw [he0]; exact hws y0 ((HC.mem c hcm).2 y0 hy0).1
    conv => rhs; rw [HF c hcm]
    unfold groupN
    apply List.filter_congr
    intro y hy
    rw [Bool.eq_iff_iff]
    exact ⟨fun h => sameN_trans hwc (hws x hx) (hws y hy) hsx (sameN_symm h), fun h => sameN_trans (hws y hy) hwc (hws x hx) (sameN_symm h) hsx⟩
  rw [hgc] at hi hn
  have hAc : AscS c := by rw [HF c hcm]; exact List.Pairwise.filter _ hA
  have hil := (List.getElem?_eq_some_iff.1 hi).1
  show procL j (listsN S (j : Nat)) (procB S j) x.id j = _
  have hxi : x.id = atI (idsN c) i := by rw [atI_ids hil, hi]; rfl
  rw [hL, hn, hxi]
  rw [procL_at j _ _ ?_ ?_ (idsN c) (List.mem_map.2 ⟨c, hcm, rfl⟩) i (by unfold idsN; simpa using hil) (procB_high S _ j j (Nat.le_refl _))]
  · have hlen : (idsN c).length = c.length := by unfold idsN; simp
    show _ = (leftN c i, rightN c i)
    congr 1
    · unfold leftN
      by_cases h1 : i = 0
      · rw [if_neg (by omega), if_pos h1]
      · rw [if_pos (by omega), if_neg h1, atI_ids (by omega)]
    · unfold rightN
      rw [hlen]
      by_cases h1 : i + 1 < c.length
      · rw [if_pos h1, atI_ids h1]
      · rw [if_neg h1, List.getElem?_eq_none (by omega)]; rfl
  · rw [List.pairwise_map, List.pairwise_iff_getElem]
    intro p q hp hq hpq z hz1 hz2
    obtain ⟨y1, hy1, e1⟩ := List.mem_map.1 hz1
    obtain ⟨y2, hy2, e2⟩ := List.mem_map.1 hz2
    have m1 := (HC.mem _ (List.getElem_mem hp)).2 y1 hy1
    have m2 := (HC.mem _ (List.getElem_mem hq)).2 y2 hy2
    have e : y1 = y2 := ids_eq (check_keys hc) m1.1 m2.1 (e1.trans e2.symm)
    subst e
    have hwc : ∀ d ∈ foldC (j : Int) S, headW d < 4294967296 := fun d hd => by
      obtain ⟨y0, hy0, he0⟩ := headW_mem (HC.mem d hd).1
      rw [he0]; exact hws y0 ((HC.mem d hd).2 y0 hy0).1
    have := HC.heads p q _ _ (List.getElem?_eq_getElem hp) (List.getElem?_eq_getElem hq) (sameN_trans (hwc _ (List.getElem_mem hp)) (hws y1 m1.1) (hwc _ (List.getElem_mem hq)) m1.2 (sameN_symm m2.2))
    omega
  · intro d hd
    obtain ⟨c', hc', rfl⟩ := List.mem_map.1 hd
    have hA' : AscS c' := by rw [HF c' hc']; exact List.Pairwise.filter _ hA
    unfold idsN List.Nodup
    rw [List.pairwise_map]
    exact hA'.imp (fun h => h.2)
theorem build_rows {l : List Nd} (h0 : checkN l = 0) (hw : ∀ x ∈ l, x.word < 4294967296) {m : Nat} (hm : m ≤ 16) : rowsF (sortN l) (m + 1) (procB (sortN l) (m + 1)) = (sortN l).map (rowN (sortN l) (m + 1)) := by
  unfold rowsF rowN
  apply List.map_congr_left
  intro x hx
  congr 1
  apply List.map_congr_left
  intro j hj
  have hj := List.mem_range.1 hj
  have := procB_low (sortN l) x.id j (m - j)
  rw [show j + 1 + (m - j) = m + 1 by omega] at this
  rw [this, build_at h0 hw hx (by omega)]
theorem build_p (a : Option Addr) (n c : Nat) (l : List Nd) (h : Int) (w : World) (hs : Sl 3 encN w a n l) (hn : n ≤ 1000) (hc : n ≤ c) (hm : c ≤ maxLen) (hw : ∀ x ∈ l, x.word < 4294967296) (hT : TabG w) :
    Calls Tryz.prog 58 #[.slice a n c, .int .i64 h] w (LkPost (buildN l h).1 (buildN l h).2 w) := by
  refine build_q a n c l h w hs hn hc hm hw hT _ _ (fun h0 => ?_) (fun h0 h1 => ?_) (fun h0 m he hm => ?_)
  · unfold buildN
    rw [if_pos (by rw [beq_eq_false_iff_ne]; exact h0)]
    exact ⟨rfl, rfl⟩
  · unfold buildN
    rw [if_neg (by rw [h0]; simp), if_pos h1]
    exact ⟨rfl, rfl⟩
  · subst he
    unfold buildN
    rw [if_neg (by rw [h0]; simp), if_neg (by unfold lvlN; simp; omega)]
    rw [build_rows h0 hw hm]
    exact ⟨rfl, rfl⟩
end Go.Proofs.YtbnbjiddffihoaaGreatDoor

/- What the statements on the unique skip graph say, in plain Lean. -/
namespace Go.Proofs.YtbnbjiddffihoaaGreatDoor
open Go.RowKit

theorem check_perm {l l' : List Nd} (hp : l'.Perm l) (h : checkN l = 0) : checkN l' = 0 := by
  have hk := check_keys h
  unfold checkN at h ⊢
  split at h
  · omega
  rename_i hlen
  split at h
  · omega
  rename_i hbad
  rw [if_neg (by rw [hp.length_eq]; exact hlen), if_neg (by
    intro hb
    obtain ⟨x, hx, hxb⟩ := List.any_eq_true.1 hb
    exact hbad (List.any_eq_true.2 ⟨x, hp.mem_iff.1 hx, hxb⟩)), if_neg]
  intro hd
  obtain ⟨i, k, x, y, hki, hx, hy, he⟩ := (dupN_iff _).1 hd
  have h2 : l'.Pairwise fun x y => x.key.toList ≠ y.key.toList ∧ x.id ≠ y.id :=
    (hp.symm.pairwise_iff (fun {x y} hxy => ⟨fun he => hxy.1 he.symm, fun he => hxy.2 he.symm⟩)).1 (keys_pw hk)
  obtain ⟨hi, e1⟩ := List.getElem?_eq_some_iff.1 hx
  obtain ⟨hk, e2⟩ := List.getElem?_eq_some_iff.1 hy
  have := List.pairwise_iff_getElem.1 h2 k i hk hi hki
  rw [e1, e2] at this
  unfold eqN at he
  rcases Bool.or_eq_true_iff.1 he with h1 | h1
  · exact this.2 (by simpa using (beq_iff_eq.1 h1).symm)
  · exact this.1 (beq_iff_eq.1 h1).symm
theorem sort_perm {l l' : List Nd} (hp : l'.Perm l) (h : checkN l = 0) : sortN l' = sortN l :=
  sortN_unique (check_keys h) ((sortN_perm l').trans hp) (sortN_asc l')
theorem check_id {l : List Nd} (h : checkN l = 0) {x : Nd} (hx : x ∈ l) : 1 ≤ x.id := by
  unfold checkN at h
  split at h
  · omega
  · split at h
    · omega
    · rename_i hb
      have hb : badN x = false := by
        cases hy2 : badN x with
        | false => rfl
        | true => exact absurd (List.any_eq_true.2 ⟨x, hx, hy2⟩) hb
      unfold badN at hb
      simp only [Bool.or_eq_false_iff, decide_eq_false_iff_not] at hb
      omega
def lastI (A : List Nd) : Int := (A.getLast?.getD Nd.zero).id
def headI (B : List Nd) : Int := (B.head?.getD Nd.zero).id
def grpS (l : List Nd) (h : Int) (v : Nat) : List Nd := groupN (sortN l) h v
theorem grp_eq {l : List Nd} {h : Int} {u v : Nat} (hw : ∀ x ∈ l, x.word < 4294967296) (hu : u < 4294967296) (hv : v < 4294967296) (hs : sameN u v h = true) : grpS l h u = grpS l h v := by
  unfold grpS groupN
  apply List.filter_congr
  intro y hy
  have hy := hw y ((sortN_mem l y).1 hy)
  rw [Bool.eq_iff_iff]
  exact ⟨fun h => sameN_trans hy hu hv h hs, fun h => sameN_trans hy hv hu h (sameN_symm hs)⟩
theorem grp_mem {l : List Nd} {h : Int} {v : Nat} {y : Nd} : y ∈ grpS l h v ↔ y ∈ l ∧ sameN y.word v h = true := by
  unfold grpS groupN
  rw [List.mem_filter, sortN_mem]
theorem neigh_split {l : List Nd} (h0 : checkN l = 0) {x : Nd} (hx : x ∈ l) {h : Int} (hl : lvlN h = true) {A B : List Nd} (e : grpS l h x.word = A ++ x :: B) : neighN l x.id h = ((lastI A, headI B), true) := by
  have hf := find_in h0 hx
  obtain ⟨i, hi, _, hn⟩ := neighN_yes (l := l) (id := x.id) (h := h) h0 (by rw [hf]) hl
  have hG : thrG l x.id h = A ++ x :: B := by unfold thrG; rw [hf]; exact e
  have hA : AscS (thrG l x.id h) := asc_group (sortN_str h0) h _
  rw [hf] at hi
  rw [hG] at hi hn hA
  have h1 := idxI_at hA hi
  have h2 := idxI_at hA (i := A.length) (x := x) (by simp)
  have hi : i = A.length := by simp only at h1; omega
  subst hi
  rw [hn]
  congr 2
  · unfold leftN lastI
    by_cases ha : A.length = 0
    · rw [if_pos ha, List.length_eq_zero_iff.1 ha]; rfl
    · rw [if_neg ha, List.getElem?_append_left (by omega), List.getLast?_eq_getElem?]
  · unfold rightN headI
    rw [List.getElem?_append_right (by omega), show A.length + 1 - A.length = 1 by omega, List.getElem?_cons_succ, List.head?_eq_getElem?]
theorem grp_at {l : List Nd} {x : Nd} (hx : x ∈ l) {h : Int} (hl : lvlN h = true) : ∃ A B, grpS l h x.word = A ++ x :: B := by
  have : x ∈ grpS l h x.word := grp_mem.2 ⟨hx, sameN_refl _ (by unfold lvlN at hl; simp at hl; exact hl.2)⟩
  exact List.append_of_mem this
theorem grp_asc {l : List Nd} (h0 : checkN l = 0) (h : Int) (v : Nat) : AscS (grpS l h v) := asc_group (sortN_str h0) h v
theorem find_zero {l : List Nd} (h0 : checkN l = 0) : findN l 0 = (Nd.zero, false) :=
  findN_none fun j z _ hz => by have := check_id h0 (List.mem_of_getElem? hz); omega
end Go.Proofs.YtbnbjiddffihoaaGreatDoor
