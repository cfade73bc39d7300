/- Shared texts. -/
import Derived.Test.YtlgdjigocopglaaGreatDoorRqAll10
import Derived.Test.YtlgdjigocopglaaGreatDoorRqAll12
set_option linter.unusedSimpArgs false
set_option linter.unusedVariables false

namespace Go.Proofs.YtlgdjigocopglaaGreatDoor
open Go.RowKit
theorem Tryz.infoI6 : (Tryz.prog.info? 3).map (fun i => (i.zero, i.size, i.bytes)) = some (some (.int .i64 0), 1, 8) := by kernel_rfl
theorem Tryz.infoIL : (Tryz.prog.info? 22).map (fun i => (i.zero, i.size, i.bytes)) = some (some (.slice none 0 0), 1, 24) := by kernel_rfl
def enc0 : Unit → List Value := fun _ => []
def pairU (m : List Int) : Unit × List Int := ((), m)
abbrev OwnIL (base : Nat) (w : World) (v : Value) (qs : List (Unit × Hdr)) (M : List (List Int)) : Prop := OwnN enc0 1 1 encI 22 3 base w v qs (M.map pairU)
def IlPost (M : List (List Int)) (w : World) (e : Ending) (w' : World) : Prop :=
 ∃ (v : Value) (qs : List (Unit × Hdr)), e = .returned v ∧ OwnIL w.heap.size w' v qs M ∧ Ex w w'
def idsN (c : List Nd) : List Int := c.map Nd.id
theorem idsN_snoc (c : List Nd) (k : Nat) (y : Nd) (hy : c[k]? = some y) : idsN (c.take (k + 1)) = idsN (c.take k) ++ [y.id] := by
 unfold idsN; rw [take_snocN c k y hy, List.map_append]; rfl
theorem idsC_snoc (C : List (List Nd)) (k : Nat) (c : List Nd) (hc : C[k]? = some c) : (((C.take (k + 1)).map idsN).map pairU) = (((C.take k).map idsN).map pairU) ++ [((), idsN c)] := by
 rw [List.take_add_one, hc, List.map_append, List.map_append]; rfl
def listsN (l : List Nd) (h : Int) : List (List Int) := if (checkN l == 0) = true ∧ lvlN h = true then (classesN (sortN l) h).map idsN else []
theorem classesN_sm (l : List Nd) (h : Int) (hl : l.length ≤ 1000) : (classesN l h).length ≤ 1000 ∧ ∀ c ∈ classesN l h, c.length ≤ 1000 := by
 refine ⟨Nat.le_trans (classes_le l h) hl, ?_⟩
 intro c hc
 by_cases hh : 16 < h
 ·rw [classesN_big hh] at hc; cases hc
 ·rw [classesN_fold hh] at hc
  have := foldC_fine (h := h) (P := fun _ => True) l (fun _ _ => trivial)
  exact Nat.le_trans (this c hc).2.1 hl
def IdqRel (c : List Nd) (n : Nat) (w : World) (o i : Value) (wr : World) : Prop :=
 ∃ k : Nat, k ≤ n ∧ i = .int .i64 k ∧ OwnL 1 encI 3 w.heap.size wr o (idsN (c.take k)) ∧ Ex w wr
def IlRel (C : List (List Nd)) (w : World) (o i : Value) (wr : World) : Prop :=
 ∃ (k : Nat) (qs : List (Unit × Hdr)), k ≤ C.length ∧ i = .int .i64 k ∧ OwnIL w.heap.size wr o qs ((C.take k).map idsN) ∧ Ex w wr
set_option maxRecDepth 100000 in
set_option maxHeartbeats 2000000 in
theorem lists_p (a : Option Addr) (n c : Nat) (l : List Nd) (h : Int) (w : World) (hs : Sl 3 encN w a n l) (hn : n ≤ 1000) (hc : n ≤ c) (hm : c ≤ maxLen) (hw : ∀ x ∈ l, x.word < 4294967296) (hT : TabG w) :
  Calls Tryz.prog 111 #[.slice a n c, .int .i64 h] w (IlPost (listsN l h) w) := by
 have HW := lH hw
 have HL := lH hs.len
 have HT := lH hT
 clear hw hT
 go_enter Tryz.func111, Tryz.ntmps111
 go_wp2_with fail
 (with_reducible refine (ordered_p _ _ _ _ _ hs hn hc hm).mono ?_)
 rintro e w1 ⟨v, S, rfl, OS, ⟨hp, hsrt⟩, k1⟩
 have SL := lH hp.length_eq
 have SW : Hid (∀ x ∈ S, x.word < 4294967296) := lH (fun x hx => HW.out x (hp.mem_iff.1 hx))
 have HSR := lH hsrt
 replace HT := lH (HT.out.nx k1)
 clear hp hsrt hs
 by_cases hck : checkN l = 0
 case neg =>
  have HNO : Hid (listsN l h = []) := lH (by unfold listsN; rw [if_neg]; rintro ⟨h1, _⟩; exact hck (by simpa using h1))
  have d1 : (checkN l == 0) = false := by simpa using hck
  rw [d1]
  clear hck d1 OS
  go_wp2_with fail
  go_ret
  rw [HNO.out]
  exact ⟨_, [], rfl, OwnN.nil _ _ _ _ _ _ _ _, k1⟩
 have HCK := lH hck
 have d1 : (checkN l == 0) = true := by simpa using hck
 rw [d1]
 clear hck d1
 by_cases hlo : h < 0
 ·have HNO : Hid (listsN l h = []) := lH (by unfold listsN; rw [if_neg]; rintro ⟨_, h1⟩; unfold lvlN at h1; simp at h1; omega)
  clear OS
  go_wp2_with fail
  go_ret
  rw [HNO.out]
  exact ⟨_, [], rfl, OwnN.nil _ _ _ _ _ _ _ _, k1⟩
 by_cases hhi : 16 < h
 ·have HNO : Hid (listsN l h = []) := lH (by unfold listsN; rw [if_neg]; rintro ⟨_, h1⟩; unfold lvlN at h1; simp at h1; omega)
  clear OS
  go_wp2_with fail
  go_ret
  rw [HNO.out]
  exact ⟨_, [], rfl, OwnN.nil _ _ _ _ _ _ _ _, k1⟩
 have HYES : Hid (listsN l h = (classesN S h).map idsN) := lH (by
  unfold listsN; rw [if_pos ⟨by rw [HCK.out]; rfl, by unfold lvlN; simp; omega⟩, HSR.out HCK.out])
 have HSM := lH (classesN_sm S h (by have := HL.out; have := SL.out; omega))
 obtain ⟨aS, cS, rfl, sS, _, _⟩ := OS.sl3 (fun _ => rfl)
 have hnS : S.length ≤ 1000 := by have := HL.out; have := SL.out; omega
 clear OS
 go_wp2_with fail
 (with_reducible refine (classes_p _ _ _ _ _ _ sS hnS SW.out HT.out).mono ?_)
 rintro e w2 ⟨a2, c2, rfl, C2, k2⟩
 replace k1 := lH (k1.nx k2)
 have hsz := k1.out.size
 generalize classesN S h = C at C2 HSM HYES ⊢
 have C2 := lH C2
 have hC := HSM.out.1
 clear k2 sS
 go_wp2_with fail
 go_loopw [7, 32] (fun o i wr => IlRel C w2 o i wr) (fun _ i _ => C.length - (intOf i).toNat)
 case atStart => exact ⟨0, [], by omega, rfl, OwnN.nil _ _ _ _ _ _ _ _, Ex.refl _⟩
 case round =>
  obtain ⟨k, qs, hk, rfl, OQ, kw⟩ := hrel
  obtain ⟨wo, rfl⟩ : ∃ wo : World, wo = wr := ⟨_, rfl⟩
  by_cases hlt : k < C.length
  ·obtain ⟨x1, o1, a', n', c', cc, rfl, hx1, hcc, hcell, hsl⟩ := (C2.out.nx kw).at hlt
   have HCC := lH hcc
   have hnl := hsl.len
   have hcl : cc.length ≤ 1000 := HSM.out.2 cc (List.mem_of_getElem? hcc)
   subst hnl
   have OQ := lH OQ
   have HSL := lH hsl
   have hzo := kw.size
   have KW := lH kw
   clear hcc hsl kw
   go_wp2_with fail
   clear hcell
   go_loopw [10, 38] (fun o i wr => IdqRel cc cc.length wo o i wr) (fun _ i _ => cc.length - (intOf i).toNat)
   case atStart => exact ⟨0, by omega, rfl, OwnL.nil _ _ _ _ _, Ex.refl _⟩
   case round =>
    obtain ⟨j, hj, rfl, own, ki⟩ := hrel
    obtain ⟨wi, rfl⟩ : ∃ wi : World, wi = wr := ⟨_, rfl⟩
    by_cases hjm : j < cc.length
    ·obtain ⟨x3, o3, y, rfl, hx3, hy, hc3⟩ := (HSL.out.nx ki).at hjm
     obtain ⟨yi, yk, yw⟩ := y
     have e0 : wi.cell? ⟨x3, o3 + j * 3, none⟩ = some (.int .i64 yi) := hc3 0 _ rfl
     have e1 : wi.cell? ⟨x3, o3 + j * 3 + 1, none⟩ = some (.string yk) := hc3 1 _ rfl
     have e2 : wi.cell? ⟨x3, o3 + j * 3 + 2, none⟩ = some (.int .u32 yw) := hc3 2 _ rfl
     have e2' : wi.cell? ⟨x3, o3 + j * 3 + 1 + 1, none⟩ = some (.int .u32 yw) := e2
     have SN := lH (idsN_snoc cc j _ hy)
     have hrl : (idsN (cc.take j)).length = j := by unfold idsN; rw [List.length_map, List.length_take]; omega
     clear hy hc3
     have k7 := Ex.new wi (.cells #[.int .i64 yi, .string yk, .int .u32 yw] 56)
     have B4 := Blk.new wi [.int .i64 yi, .string yk, .int .u32 yw] 56
     obtain ⟨w7, hw7⟩ : ∃ w7, w7 = wi.alloc (.cells #[.int .i64 yi, .string yk, .int .u32 yw] 56) := ⟨_, rfl⟩
     obtain ⟨g4, hg4⟩ : ∃ g4, g4 = wi.heap.size := ⟨_, rfl⟩
     have B4 : Blk w7 g4 [.int .i64 yi, .string yk, .int .u32 yw] 56 := by rw [hw7, hg4]; exact B4
     rw [← hw7] at k7
     have HW7 := lH hw7
     have HG4 := lH hg4
     replace own := own.nx k7
     replace ki := ki.nx k7
     generalize idsN (cc.take j) = row at own SN hrl
     clear hw7 hg4 k7
     go_upto_region 12 with fail
     rw [← HG4.out, ← HW7.out]
     clear e0 e1 e2 e2'
     have y0 := B4.cell 0 _ rfl
     have zb := ki.size
     go_wp2_with (at_builtin; (refine wpList_append_lit (enc := encI) w7 rfl _ _ 22 rfl wo.heap.size 3 (.int .i64 0) 1 8 Tryz.underlying22 Tryz.infoI6 rfl (by omega) (by omega) _ _ own rfl (yi : Int) _ rfl rfl (by simp [encI, Value.oneCell']) _ (by simp) rfl (by omega) zb _ ?_); intro v6 w6 own6 _ ch1 _)
     refine ⟨⟨j + 1, by omega, by go_num, by rw [SN.out]; exact own6, Chg.trans ki ch1⟩, by simp [intOf]; omega⟩
    ·obtain rfl : j = cc.length := by omega
     rw [List.take_length] at own
     have OQ1 := OQ.out.nx ki
     obtain ⟨a6, c6, rfl, _, _, _, _⟩ := own.rd (fun _ => rfl)
     have hkq : qs.length = k := by rw [OQ1.2.1, List.length_map, List.length_map, List.length_take]; omega
     have hzi : w2.heap.size ≤ wi.heap.size := by have := ki.size; omega
     have FR : ∀ (j : Nat) (r : Unit × Hdr) (g : Nat), qs[j]? = some r → r.2.val.ownBlock = some g → ¬ (Value.slice a6 (idsN cc).length c6).ownBlock = some g := by
      intro j r g hr hg hv
      have h1 := OQ.out.lt hr hg
      have h2 := (own.lt g hv).1
      omega
     clear hjm hj
     have k8 := Ex.new wi (.cells #[.slice a6 (idsN cc).length c6] 22)
     have SX : Sl 1 (encP enc0) (wi.alloc (.cells #[.slice a6 (idsN cc).length c6] 22)) (some ⟨wi.heap.size, 0, none⟩) 1 [(((), (a6, (idsN cc).length, c6)) : Unit × Hdr)] := Sl.lit _ rfl rfl (fun _ => rfl) rfl
     have OQ2 := OQ1.nx k8
     have own2 := own.nx k8
     have ki8 := ki.nx k8
     have hql : qs.length ≤ 1000000 := by omega
     go_wp2_with (at_builtin; (refine wpList_append_W (enc := encP enc0) _ rfl _ _ 130 rfl w2.heap.size 22 (.slice none 0 0) 1 24 Tryz.underlying130 Tryz.infoIL rfl (by omega) (by omega) _ _ OQ2.1 rfl _ 1 1 [_] SX (fun _ => rfl) (by simp [encP, enc0, Hdr.val, Value.oneCell']) rfl hql (by omega) (by simp; omega) ?_); intro v7 w7 own7 ch0 ch1 _)
     have OQ7 := OQ2.push (by decide) own7 ch0 (own2.base (by omega)) FR
     have kw7 : Ex w2 w7 := Chg.trans (KW.out.nx ki8) ch1
     exact ⟨⟨k + 1, qs ++ [(((), (a6, (idsN cc).length, c6)) : Unit × Hdr)], by omega, by go_num, by show OwnN enc0 1 1 encI _ _ _ _ _ _ (((C.take (k + 1)).map idsN).map pairU); rw [idsC_snoc C k cc HCC.out]; exact OQ7, kw7⟩, by simp [intOf]; omega⟩
  ·obtain rfl : k = C.length := by omega
   rw [List.take_length] at OQ
   have OQ := lH OQ
   clear hk hlt
   go_wp2_with fail
   go_ret
   rw [HYES.out]
   exact ⟨_, qs, rfl, OwnN.base OQ.out hsz, k1.out.nx kw⟩
abbrev FnL := Int → Nat → Int × Int
def updL (F : FnL) (id : Int) (j : Nat) (v : Int) : FnL := fun x h => if x = id ∧ h = j then (v, (F x h).2) else F x h
def updR (F : FnL) (id : Int) (j : Nat) (v : Int) : FnL := fun x h => if x = id ∧ h = j then ((F x h).1, v) else F x h
def atI (ids : List Int) (q : Nat) : Int := ids[q]?.getD 0
def procI (ids : List Int) (j : Nat) (F : FnL) : Nat → FnL
 | 0 => F
 | n + 1 => updR (updL (procI ids j F n) (atI ids (n + 1)) j (atI ids n)) (atI ids n) j (atI ids (n + 1))
def procL (j : Nat) (M : List (List Int)) (F : FnL) : FnL := M.foldl (fun F ids => procI ids j F (ids.length - 1)) F
def procB (S : List Nd) : Nat → FnL
 | 0 => fun _ _ => (0, 0)
 | j + 1 => procL j (listsN S (j : Nat)) (procB S j)
def rowsF (S : List Nd) (m : Nat) (F : FnL) : List Lkd := S.map fun x => (x.id, (List.range m).map fun j => F x.id j)
theorem procL_snoc (j : Nat) (M : List (List Int)) (F : FnL) (k : Nat) (c : List Int) (hc : M[k]? = some c) : procL j (M.take (k + 1)) F = procI c j (procL j (M.take k) F) (c.length - 1) := by
 unfold procL
 rw [List.take_add_one, hc, List.foldl_append]
 rfl
theorem procI_other (ids : List Int) (j : Nat) (F : FnL) (n : Nat) (x : Int) (h : Nat) (hx : h ≠ j ∨ ∀ q, q ≤ n → x ≠ atI ids q) : procI ids j F n x h = F x h := by
 induction n with
 | zero => rfl
 | succ n ih =>
  have ih := ih (hx.imp id (fun g q hq => g q (by omega)))
  show updR (updL (procI ids j F n) (atI ids (n + 1)) j (atI ids n)) (atI ids n) j (atI ids (n + 1)) x h = _
  unfold updR updL
  rcases hx with hx | hx
  ·rw [if_neg (fun e => hx e.2), if_neg (fun e => hx e.2), ih]
  ·rw [if_neg (fun e => hx n (by omega) e.1), if_neg (fun e => hx (n + 1) (by omega) e.1), ih]
theorem atI_inj {ids : List Int} (hn : ids.Nodup) {p q : Nat} (hp : p < ids.length) (hq : q < ids.length) (e : atI ids p = atI ids q) : p = q := by
 unfold atI at e
 rw [List.getElem?_eq_getElem hp, List.getElem?_eq_getElem hq] at e
 have hw := List.pairwise_iff_getElem.1 hn
 rcases Nat.lt_trichotomy p q with h | h | h
 ·exact absurd e (hw p q hp hq h)
 ·exact h
 ·exact absurd e.symm (hw q p hq hp h)
theorem procI_at {ids : List Int} (hn : ids.Nodup) (j : Nat) (F : FnL) {p : Nat} (hp : p < ids.length) :
  ∀ n, n < ids.length → procI ids j F n (atI ids p) j = (if 1 ≤ p ∧ p ≤ n then atI ids (p - 1) else (F (atI ids p) j).1, if p < n then atI ids (p + 1) else (F (atI ids p) j).2) := by
 intro n
 induction n with
 | zero => intro _; rw [if_neg (by omega), if_neg (by omega)]; rfl
 | succ n ih =>
  intro hl
  have ih := ih (by omega)
  have e1 : (atI ids p = atI ids (n + 1)) ↔ p = n + 1 := ⟨fun e => atI_inj hn hp hl e, fun e => by rw [e]⟩
  have e2 : (atI ids p = atI ids n) ↔ p = n := ⟨fun e => atI_inj hn hp (by omega) e, fun e => by rw [e]⟩
  show updR (updL (procI ids j F n) (atI ids (n + 1)) j (atI ids n)) (atI ids n) j (atI ids (n + 1)) (atI ids p) j = _
  unfold updR updL
  simp only [e1, e2, and_true]
  by_cases h1 : p = n + 1
  ·rw [if_neg (by omega), if_pos h1, ih, if_pos (by omega : 1 ≤ p ∧ p ≤ n + 1), if_neg (by omega : ¬ p < n + 1)]
   simp only
   rw [if_neg (by omega : ¬ p < n), h1]
   rfl
  ·by_cases h2 : p = n
   ·rw [if_pos h2, if_neg h1, ih]
    simp only
    rw [if_pos (by omega : p < n + 1), h2]
    by_cases h3 : 1 ≤ n
    ·rw [if_pos ⟨h3, Nat.le_refl _⟩, if_pos ⟨h3, by omega⟩]
    ·rw [if_neg (by omega), if_neg (by omega)]
   ·rw [if_neg h2, if_neg h1, ih]
    congr 1
    ·by_cases h3 : 1 ≤ p ∧ p ≤ n
     ·rw [if_pos h3, if_pos (by omega)]
     ·rw [if_neg h3, if_neg (by omega)]
    ·by_cases h3 : p < n
     ·rw [if_pos h3, if_pos (by omega)]
     ·rw [if_neg h3, if_neg (by omega)]
theorem procL_level (j : Nat) (M : List (List Int)) (F : FnL) (x : Int) (h : Nat) (hh : h ≠ j) : procL j M F x h = F x h := by
 unfold procL
 induction M generalizing F with
 | nil => rfl
 | cons c M ih => rw [List.foldl_cons, ih, procI_other _ _ _ _ _ _ (.inl hh)]
theorem atI_mem {ids : List Int} {q : Nat} (hq : q < ids.length) : atI ids q ∈ ids := by
 unfold atI; rw [List.getElem?_eq_getElem hq]; exact List.getElem_mem hq
theorem procI_mem (ids : List Int) (j : Nat) (F : FnL) (x : Int) (h : Nat) (hx : x ∉ ids) : procI ids j F (ids.length - 1) x h = F x h := by
 by_cases h0 : ids = []
 ·subst h0; rfl
 ·have : 0 < ids.length := List.length_pos_iff.2 h0
  exact procI_other _ _ _ _ _ _ (.inr fun q hq e => hx (e ▸ atI_mem (by omega)))
theorem procL_not (j : Nat) (M : List (List Int)) (F : FnL) (x : Int) (h : Nat) (hx : ∀ c ∈ M, x ∉ c) : procL j M F x h = F x h := by
 unfold procL
 induction M generalizing F with
 | nil => rfl
 | cons c M ih => rw [List.foldl_cons, ih _ (fun d hd => hx d (by simp [hd])), procI_mem _ _ _ _ _ (hx c (by simp))]
theorem procL_at (j : Nat) : ∀ (M : List (List Int)) (F : FnL), M.Pairwise (fun c d => ∀ x ∈ c, x ∉ d) → (∀ c ∈ M, c.Nodup) → ∀ c ∈ M, ∀ p, p < c.length → F (atI c p) j = (0, 0) →
  procL j M F (atI c p) j = (if 1 ≤ p then atI c (p - 1) else 0, if p + 1 < c.length then atI c (p + 1) else 0)
 | [], _, _, _, c, hc, _, _, _ => by cases hc
 | d :: M, F, hM, hN, c, hc, p, hp, hF => by
  rw [List.pairwise_cons] at hM
  show procL j M (procI d j F (d.length - 1)) (atI c p) j = _
  by_cases hcd : c ∈ M
  ·rw [procL_at j M _ hM.2 (fun c hc => hN c (by simp [hc])) c hcd p hp]
   rw [procI_mem _ _ _ _ _ (fun hx => hM.1 c hcd _ hx (atI_mem hp))]
   exact hF
  ·obtain rfl : c = d := by rcases List.mem_cons.1 hc with e | e; exact e; exact absurd e hcd
   rw [procL_not _ _ _ _ _ (fun d hd hx => hM.1 d hd _ (atI_mem hp) hx), procI_at (hN c (by simp)) j F hp (c.length - 1) (by omega), hF]
   congr 1
   ·by_cases h3 : 1 ≤ p
    ·rw [if_pos h3, if_pos (by omega)]
    ·rw [if_neg h3, if_neg (by omega)]
   ·by_cases h3 : p < c.length - 1
    ·rw [if_pos h3, if_pos (by omega)]
    ·rw [if_neg h3, if_neg (by omega)]
def InQ (qs : List (Int × Hdr)) (k : Nat) : Prop := ∃ (j : Nat) (r : Int × Hdr), qs[j]? = some r ∧ r.2.val.ownBlock = some k
def Exq (qs : List (Int × Hdr)) (w w' : World) : Prop := Chg (fun k => k < w.heap.size ∧ ¬ InQ qs k) w w'
theorem Exq.refl (qs : List (Int × Hdr)) (w : World) : Exq qs w w := Chg.refl _ w
theorem Exq.size {qs : List (Int × Hdr)} {w w' : World} (k : Exq qs w w') : w.heap.size ≤ w'.heap.size := Chg.size k
theorem Exq.nxq {qs : List (Int × Hdr)} {w w1 w2 : World} (h : Exq qs w w1) (k : Exq qs w1 w2) : Exq qs w w2 := Chg.trans h (Chg.mono k (fun _ hk => ⟨Nat.lt_of_lt_of_le hk.1 h.size, hk.2⟩))
theorem Exq.nx {qs : List (Int × Hdr)} {w w1 w2 : World} (h : Exq qs w w1) (k : Ex w1 w2) : Exq qs w w2 := Chg.trans h (Chg.mono k (fun _ hk => Nat.lt_of_lt_of_le hk.1 h.size))
theorem Exq.of_ex {qs : List (Int × Hdr)} {w w' : World} (k : Ex w w') : Exq qs w w' := Chg.mono k (fun _ hk => hk.1)
theorem Exq.set {qs : List (Int × Hdr)} {w w' : World} (h : Exq qs w w') {p : Addr} (v : Value) (hp : InQ qs p.block) : Exq qs w (w'.setCell p v) := Chg.setCell h v (fun k hk he => hk.2 (he ▸ hp))
theorem inQ_base {base : Nat} {w : World} {v : Value} {qs : List (Int × Hdr)} {L : List Lkd} (h : OwnLk base w v qs L) {k : Nat} (hk : InQ qs k) : base ≤ k ∧ k < w.heap.size := by
 obtain ⟨j, r, hr, hg⟩ := hk
 exact ⟨(OwnN.blk h hr hg).1, OwnN.lt h hr hg⟩
theorem inQ_ne {base : Nat} {w : World} {v : Value} {qs : List (Int × Hdr)} {L : List Lkd} (h : OwnLk base w v qs L) {k : Nat} (hk : v.ownBlock = some k) : ¬ InQ qs k := by
 rintro ⟨j, r, hr, hg⟩
 exact OwnN.ne (by decide) h hr hg hk
def ILt (T : Nat → Prop) (w : World) (a : Option Addr) (n : Nat) (M : List (List Int)) : Prop :=
 ∃ hs : List (Unit × Hdr), Rd 1 (encP enc0) T w a n hs ∧ M.length = n ∧ ∀ (j : Nat) (q : Unit × Hdr) (c : List Int), hs[j]? = some q → M[j]? = some c → Rd 1 encI T w q.2.1 q.2.2.1 c
theorem ILt.chg {T : Nat → Prop} {w w' : World} {a : Option Addr} {n : Nat} {M : List (List Int)} (h : ILt T w a n M) (k : Chg T w w') : ILt T w' a n M := by
 obtain ⟨hs, h1, h2, h3⟩ := h
 exact ⟨hs, Rd.chg h1 k (fun _ x => x), h2, fun j q c hq hc => Rd.chg (h3 j q c hq hc) k (fun _ x => x)⟩
theorem ILt.at {T : Nat → Prop} {w : World} {a : Option Addr} {n : Nat} {M : List (List Int)} (h : ILt T w a n M) {j : Nat} (hj : j < n) :
  ∃ x o a' n' c' c, a = some ⟨x, o, none⟩ ∧ T x ∧ M[j]? = some c ∧ w.cell? ⟨x, o + j, none⟩ = some (.slice a' n' c') ∧ Rd 1 encI T w a' n' c := by
 obtain ⟨hs, h1, h2, h3⟩ := h
 obtain ⟨x, o, q, e, hx, hq, hc⟩ := Rd.at h1 hj
 obtain ⟨c, hcc⟩ : ∃ c, M[j]? = some c := ⟨M[j]'(by omega), by simp⟩
 refine ⟨x, o, q.2.1, q.2.2.1, q.2.2.2, c, e, hx, hcc, ?_, h3 j q c hq hcc⟩
 have := hc 0 _ rfl
 rw [Nat.mul_one, Nat.add_zero] at this
 exact this
theorem OwnIL.ilt {base : Nat} {w : World} {v : Value} {qs : List (Unit × Hdr)} {M : List (List Int)} (h : OwnIL base w v qs M) :
  ∃ a cap, v = .slice a M.length cap ∧ ILt (fun k => base ≤ k ∧ k < w.heap.size) w a M.length M := by
 obtain ⟨a, cap, e, r, c1, c2, c3, c4⟩ := h.1.rd (fun _ => rfl)
 have hl := h.2.1
 rw [List.length_map] at hl
 rw [hl] at e r
 refine ⟨a, cap, e, qs, r, rfl, fun j q c hq hc => ?_⟩
 obtain ⟨r1, r2⟩ := h.2.2.1 j q (pairU c) hq (by rw [List.getElem?_map, hc]; rfl)
 obtain ⟨a', cap', e', r', _⟩ := r2.rd (fun _ => rfl)
 obtain ⟨x, q1, q2, q3⟩ := q
 simp only [Hdr.val, Value.slice.injEq] at e'
 obtain ⟨rfl, rfl, rfl⟩ := e'
 exact r'
theorem mkLk0 (w : World) : (Instr.makeSlice 104 (.int .i64 1) (.int .i64 1)).run Tryz.prog w = .ok (.slice (some ⟨w.heap.size, 0, none⟩) 1 1) (w.alloc (.cells ((List.replicate 1 ((0, 0) : Int × Int)).flatMap encS).toArray 69)) := by kernel_rfl
theorem mkLk1 (w : World) : (Instr.makeSlice 104 (.int .i64 2) (.int .i64 2)).run Tryz.prog w = .ok (.slice (some ⟨w.heap.size, 0, none⟩) 2 2) (w.alloc (.cells ((List.replicate 2 ((0, 0) : Int × Int)).flatMap encS).toArray 69)) := by kernel_rfl
theorem mkLk2 (w : World) : (Instr.makeSlice 104 (.int .i64 3) (.int .i64 3)).run Tryz.prog w = .ok (.slice (some ⟨w.heap.size, 0, none⟩) 3 3) (w.alloc (.cells ((List.replicate 3 ((0, 0) : Int × Int)).flatMap encS).toArray 69)) := by kernel_rfl
theorem mkLk3 (w : World) : (Instr.makeSlice 104 (.int .i64 4) (.int .i64 4)).run Tryz.prog w = .ok (.slice (some ⟨w.heap.size, 0, none⟩) 4 4) (w.alloc (.cells ((List.replicate 4 ((0, 0) : Int × Int)).flatMap encS).toArray 69)) := by kernel_rfl
theorem mkLk4 (w : World) : (Instr.makeSlice 104 (.int .i64 5) (.int .i64 5)).run Tryz.prog w = .ok (.slice (some ⟨w.heap.size, 0, none⟩) 5 5) (w.alloc (.cells ((List.replicate 5 ((0, 0) : Int × Int)).flatMap encS).toArray 69)) := by kernel_rfl
theorem mkLk5 (w : World) : (Instr.makeSlice 104 (.int .i64 6) (.int .i64 6)).run Tryz.prog w = .ok (.slice (some ⟨w.heap.size, 0, none⟩) 6 6) (w.alloc (.cells ((List.replicate 6 ((0, 0) : Int × Int)).flatMap encS).toArray 69)) := by kernel_rfl
theorem mkLk6 (w : World) : (Instr.makeSlice 104 (.int .i64 7) (.int .i64 7)).run Tryz.prog w = .ok (.slice (some ⟨w.heap.size, 0, none⟩) 7 7) (w.alloc (.cells ((List.replicate 7 ((0, 0) : Int × Int)).flatMap encS).toArray 69)) := by kernel_rfl
theorem mkLk7 (w : World) : (Instr.makeSlice 104 (.int .i64 8) (.int .i64 8)).run Tryz.prog w = .ok (.slice (some ⟨w.heap.size, 0, none⟩) 8 8) (w.alloc (.cells ((List.replicate 8 ((0, 0) : Int × Int)).flatMap encS).toArray 69)) := by kernel_rfl
theorem mkLk8 (w : World) : (Instr.makeSlice 104 (.int .i64 9) (.int .i64 9)).run Tryz.prog w = .ok (.slice (some ⟨w.heap.size, 0, none⟩) 9 9) (w.alloc (.cells ((List.replicate 9 ((0, 0) : Int × Int)).flatMap encS).toArray 69)) := by kernel_rfl
theorem mkLk9 (w : World) : (Instr.makeSlice 104 (.int .i64 10) (.int .i64 10)).run Tryz.prog w = .ok (.slice (some ⟨w.heap.size, 0, none⟩) 10 10) (w.alloc (.cells ((List.replicate 10 ((0, 0) : Int × Int)).flatMap encS).toArray 69)) := by kernel_rfl
theorem mkLk10 (w : World) : (Instr.makeSlice 104 (.int .i64 11) (.int .i64 11)).run Tryz.prog w = .ok (.slice (some ⟨w.heap.size, 0, none⟩) 11 11) (w.alloc (.cells ((List.replicate 11 ((0, 0) : Int × Int)).flatMap encS).toArray 69)) := by kernel_rfl
theorem mkLk11 (w : World) : (Instr.makeSlice 104 (.int .i64 12) (.int .i64 12)).run Tryz.prog w = .ok (.slice (some ⟨w.heap.size, 0, none⟩) 12 12) (w.alloc (.cells ((List.replicate 12 ((0, 0) : Int × Int)).flatMap encS).toArray 69)) := by kernel_rfl
theorem mkLk12 (w : World) : (Instr.makeSlice 104 (.int .i64 13) (.int .i64 13)).run Tryz.prog w = .ok (.slice (some ⟨w.heap.size, 0, none⟩) 13 13) (w.alloc (.cells ((List.replicate 13 ((0, 0) : Int × Int)).flatMap encS).toArray 69)) := by kernel_rfl
theorem mkLk13 (w : World) : (Instr.makeSlice 104 (.int .i64 14) (.int .i64 14)).run Tryz.prog w = .ok (.slice (some ⟨w.heap.size, 0, none⟩) 14 14) (w.alloc (.cells ((List.replicate 14 ((0, 0) : Int × Int)).flatMap encS).toArray 69)) := by kernel_rfl
theorem mkLk14 (w : World) : (Instr.makeSlice 104 (.int .i64 15) (.int .i64 15)).run Tryz.prog w = .ok (.slice (some ⟨w.heap.size, 0, none⟩) 15 15) (w.alloc (.cells ((List.replicate 15 ((0, 0) : Int × Int)).flatMap encS).toArray 69)) := by kernel_rfl
theorem mkLk15 (w : World) : (Instr.makeSlice 104 (.int .i64 16) (.int .i64 16)).run Tryz.prog w = .ok (.slice (some ⟨w.heap.size, 0, none⟩) 16 16) (w.alloc (.cells ((List.replicate 16 ((0, 0) : Int × Int)).flatMap encS).toArray 69)) := by kernel_rfl
theorem mkLk16 (w : World) : (Instr.makeSlice 104 (.int .i64 17) (.int .i64 17)).run Tryz.prog w = .ok (.slice (some ⟨w.heap.size, 0, none⟩) 17 17) (w.alloc (.cells ((List.replicate 17 ((0, 0) : Int × Int)).flatMap encS).toArray 69)) := by kernel_rfl
theorem mkLk (m M1 : Nat) (hm : m ≤ 16) (h : M1 = m + 1) (w : World) : (Instr.makeSlice 104 (.int .i64 ((m : Int) + 1)) (.int .i64 ((m : Int) + 1))).run Tryz.prog w =
  .ok (.slice (some ⟨w.heap.size, 0, none⟩) M1 M1) (w.alloc (.cells ((List.replicate M1 ((0, 0) : Int × Int)).flatMap encS).toArray 69)) := by
 subst h
 match m, hm with
 | 0, _ => exact mkLk0 w
 | 1, _ => exact mkLk1 w
 | 2, _ => exact mkLk2 w
 | 3, _ => exact mkLk3 w
 | 4, _ => exact mkLk4 w
 | 5, _ => exact mkLk5 w
 | 6, _ => exact mkLk6 w
 | 7, _ => exact mkLk7 w
 | 8, _ => exact mkLk8 w
 | 9, _ => exact mkLk9 w
 | 10, _ => exact mkLk10 w
 | 11, _ => exact mkLk11 w
 | 12, _ => exact mkLk12 w
 | 13, _ => exact mkLk13 w
 | 14, _ => exact mkLk14 w
 | 15, _ => exact mkLk15 w
 | 16, _ => exact mkLk16 w
 | m + 17, h => exact absurd h (by omega)
theorem rows_set {S : List Nd} (hd : S.Pairwise fun x y => x.id ≠ y.id) {m p j : Nat} {y : Nd} (hp : S[p]? = some y) (hj : j < m) (F G : FnL) (hG : ∀ x h, (x ≠ y.id ∨ h ≠ j) → G x h = F x h) :
  rowsF S m G = (rowsF S m F).set p (y.id, ((List.range m).map fun j => F y.id j).set j (G y.id j)) := by
 obtain ⟨hpl, hpe⟩ := List.getElem?_eq_some_iff.1 hp
 apply List.ext_getElem?
 intro i
 unfold rowsF
 by_cases hi : i = p
 ·subst hi
  rw [List.getElem?_set_self (by simpa using hpl), List.getElem?_map, hp]
  simp only [Option.map_some, Option.some.injEq, Prod.mk.injEq, true_and]
  apply List.ext_getElem?
  intro h
  by_cases hh : h = j
  ·subst hh
   rw [List.getElem?_set_self (by simpa using hj), List.getElem?_map, List.getElem?_range hj]
   rfl
  ·rw [List.getElem?_set_ne (by omega)]
   simp only [List.getElem?_map]
   by_cases hm : h < m
   ·rw [List.getElem?_range hm]
    simp only [Option.map_some]
    rw [hG _ _ (.inr hh)]
   ·rw [List.getElem?_eq_none (by simpa using hm)]; rfl
 ·rw [List.getElem?_set_ne (by omega)]
  simp only [List.getElem?_map]
  cases hx : S[i]? with
  | none => rfl
  | some x =>
   simp only [Option.map_some]
   have hne : x.id ≠ y.id := by
    obtain ⟨hil, hie⟩ := List.getElem?_eq_some_iff.1 hx
    have hw := List.pairwise_iff_getElem.1 hd
    rcases Nat.lt_or_gt_of_ne hi with h | h
    ·have := hw i p hil hpl h; rwa [hie, hpe] at this
    ·have := hw p i hpl hil h; rw [hie, hpe] at this; exact fun e => this e.symm
   congr 2
   apply List.map_congr_left
   intro h _
   exact hG _ _ (.inl hne)
theorem rows_at {base : Nat} {w : World} {v : Value} {qs : List (Int × Hdr)} {S : List Nd} {m : Nat} {F : FnL} (hd : S.Pairwise fun x y => x.id ≠ y.id) (h : OwnLk base w v qs (rowsF S m F)) {p j : Nat} {y : Nd} (hp : S[p]? = some y) (hj : j < m) :
  ∃ g cap g' cap', v = .slice (some ⟨g, 0, none⟩) S.length cap ∧ g < w.heap.size ∧ ¬ InQ qs g ∧ w.cell? ⟨g, p * 2 + 1, none⟩ = some (.slice (some ⟨g', 0, none⟩) m cap') ∧ InQ qs g' ∧
   (∃ u, w.cell? ⟨g', j * 2, none⟩ = some u) ∧ (∃ u, w.cell? ⟨g', j * 2 + 1, none⟩ = some u) ∧ w.frozen? ⟨g', j * 2, none⟩ = false ∧ w.frozen? ⟨g', j * 2 + 1, none⟩ = false ∧
   (∀ u : Int, OwnLk base (w.setCell ⟨g', j * 2, none⟩ (.int .i64 u)) v qs (rowsF S m (updL F y.id j u))) ∧
   ∀ u : Int, OwnLk base (w.setCell ⟨g', j * 2 + 1, none⟩ (.int .i64 u)) v qs (rowsF S m (updR F y.id j u)) := by
 have hpl := (List.getElem?_eq_some_iff.1 hp).1
 have hL : (rowsF S m F)[p]? = some (y.id, (List.range m).map fun j => F y.id j) := by unfold rowsF; rw [List.getElem?_map, hp]; rfl
 obtain ⟨hd1, hq, ho⟩ := OwnN.get (p := 1) h hL
 obtain ⟨a, cap, e, r, c1, c2, c3, c4⟩ := h.1.rd (fun _ => rfl)
 have hlen : qs.length = S.length := by rw [h.2.1]; unfold rowsF; simp
 obtain ⟨g, hga, hgb⟩ := c3 (by intro h0; rw [h0] at hlen; simp at hlen; omega)
 cases hga
 subst e
 have hvb : (Value.slice (some ⟨g, 0, none⟩) qs.length cap).ownBlock = some g := rfl
 have hrow : ((List.range m).map fun j => F y.id j)[j]? = some (F y.id j) := by rw [List.getElem?_map, List.getElem?_range hj]; rfl
 have hhd : ∃ g' cap', hd1.val = .slice (some ⟨g', 0, none⟩) m cap' := by
  rcases ho.2 with ⟨h1, h2⟩ | ⟨g', cap', cur, h1, _⟩
  ·exfalso; have h2' := h2; simp at h2'; omega
  ·exact ⟨g', cap', by rw [h1]; simp⟩
 obtain ⟨g', cap', hv'⟩ := hhd
 have hinq : InQ qs g' := ⟨p, _, hq, by rw [hv']; rfl⟩
 have hcell := (h.1.set1 (sz := 2) (enc := encP encI) (c := 1) (fun _ => rfl) hq (by omega)).1
 rw [hv'] at ho
 obtain ⟨q0, f0, O0⟩ := own_set1 (sz := 2) (enc := encS) (c := 0) (fun _ => rfl) ho hrow (by omega)
 obtain ⟨q1, f1, O1⟩ := own_set1 (sz := 2) (enc := encS) (c := 1) (fun _ => rfl) ho hrow (by omega)
 have hgl : g < w.heap.size := by obtain ⟨_, cur, hc⟩ := OwnW.blk h.1 hvb; exact heap_lt hc
 have key : ∀ (c : Nat) (u : Value) (row' : List (Int × Int)), OwnL 2 encS 69 base (w.setCell ⟨g', j * 2 + c, none⟩ u) hd1.val row' → OwnLk base (w.setCell ⟨g', j * 2 + c, none⟩ u) (.slice (some ⟨g, 0, none⟩) qs.length cap) qs ((rowsF S m F).set p (y.id, row')) := by
  intro c u row' ho'
  exact OwnN.keep (by decide) h hq ho' ((Chg.refl _ w).setCell _ (fun x hx he => hx.2 (by rw [hv', he]; rfl)))
 refine ⟨g, cap, g', cap', by rw [hlen], hgl, inQ_ne h hvb, ?_, hinq, ⟨_, q0⟩, ⟨_, q1⟩, f0, f1, fun u => ?_, fun u => ?_⟩
 ·rw [← hv']
  exact hcell
 ·rw [rows_set hd hp hj F (updL F y.id j u) (fun x h hx => by unfold updL; rw [if_neg (fun e => by rcases hx with hx | hx; exact hx e.1; exact hx e.2)])]
  have hu : updL F y.id j u y.id j = (u, (F y.id j).2) := by unfold updL; rw [if_pos ⟨rfl, rfl⟩]
  rw [hu]
  refine key 0 _ _ ?_
  rw [hv']
  exact O0 (u, (F y.id j).2) (.int .i64 u) rfl
 ·rw [rows_set hd hp hj F (updR F y.id j u) (fun x h hx => by unfold updR; rw [if_neg (fun e => by rcases hx with hx | hx; exact hx e.1; exact hx e.2)])]
  have hu : updR F y.id j u y.id j = ((F y.id j).1, u) := by unfold updR; rw [if_pos ⟨rfl, rfl⟩]
  rw [hu]
  refine key 1 _ _ ?_
  rw [hv']
  exact O1 ((F y.id j).1, u) (.int .i64 u) rfl
section
variable {N : List Nd} {P : List Pr}
def KR (N : List Nd) (P : List Pr) (x y : Nat) : Prop := ∃ a b, (sortN N)[x]? = some a ∧ (sortN N)[y]? = some b ∧ b.id ∈ refsN N (peerN P a.id)
theorem KR.lt {x y : Nat} (h : KR N P x y) : x < N.length ∧ y < N.length := by
 obtain ⟨a, b, h1, h2, _⟩ := h
 have g1 := (List.getElem?_eq_some_iff.1 h1).1
 have g2 := (List.getElem?_eq_some_iff.1 h2).1
 rw [sortN_length] at g1 g2
 exact ⟨g1, g2⟩
inductive Cl (R : Int → Int → Prop) : Int → Int → Prop
 | refl (a : Int) : Cl R a a
 | step {a c b : Int} : R a c ∨ R c a → Cl R c b → Cl R a b
theorem Cl.trans {R : Int → Int → Prop} {a b c : Int} (h : Cl R a b) (k : Cl R b c) : Cl R a c := by
 induction h with
 | refl _ => exact k
 | step h1 _ ih => exact .step h1 (ih k)
theorem Cl.one {R : Int → Int → Prop} {a b : Int} (h : R a b ∨ R b a) : Cl R a b := .step h (.refl b)
theorem Cl.symm {R : Int → Int → Prop} {a b : Int} (h : Cl R a b) : Cl R b a := by
 induction h with
 | refl _ => exact .refl _
 | step h1 _ ih => exact ih.trans (.one h1.symm)
theorem Cl.mono {R R' : Int → Int → Prop} (hr : ∀ a b, R a b → Cl R' a b) {a b : Int} (h : Cl R a b) : Cl R' a b := by
 induction h with
 | refl _ => exact .refl _
 | step h1 _ ih =>
  rcases h1 with h | h
  ·exact (hr _ _ h).trans ih
  ·exact (hr _ _ h).symm.trans ih
end
def OiPost (l : List Int) (w : World) (e : Ending) (w' : World) : Prop := ∃ v, e = .returned v ∧ OwnL 1 encI 3 w.heap.size w' v l ∧ Ex w w'
end Go.Proofs.YtlgdjigocopglaaGreatDoor
namespace Go.Proofs.YtlgdjigocopglaaGreatDoor
open Go.RowKit Go.Maps
theorem check_len {N : List Nd} (h0 : checkN N = 0) : N.length ≤ 64 := by
 unfold checkN at h0
 split at h0
 ·cases h0
 ·omega
abbrev OwnPr (base : Nat) (w : World) (v : Value) (qs : List PQ) (P : List Pr) : Prop := OwnP 41 3 50 base w v qs P
def PlPost (P : List Pr) (w : World) (e : Ending) (w' : World) : Prop := ∃ v qs, e = .returned v ∧ OwnPr w.heap.size w' v qs P ∧ Ex w w'
theorem OwnP.app {eP eI eN : TypeId} (hI : eP ≠ eI) (hN : eP ≠ eN) {base : Nat} {w0 w1 w2 : World} {v v' : Value} {qs : List PQ} {P : List Pr} {p : Pr} {hk hn : Hdr} (h : OwnP eP eI eN base w0 v qs P) (hb : base ≤ w0.heap.size) (kk : Ex w0 w1)
  (ik : OwnL 1 encI eI w0.heap.size w1 hk.val p.known) (inr : OwnL 4 encNr eN w0.heap.size w1 hn.val p.near)
  (ho : OwnW 5 encQ eP base w2 v' (qs ++ [(p.nums, hk, hn)])) (k : Chg (fun k => k < w1.heap.size ∧ ¬ v.ownBlock = some k) w1 w2) : OwnP eP eI eN base w2 v' (qs ++ [(p.nums, hk, hn)]) (P ++ [p]) := by
 refine (h.nx kk).push hI hN ho k (ik.base hb) (inr.base hb) (fun j r g hr hg hv => ?_) (fun j r g hr hg hv => ?_)
 ·obtain ⟨q, _, _, r2, _⟩ := h.getp hr
  have h1 := (r2.lt g hg).2
  have h2 := (ik.lt g hv).1
  omega
 ·obtain ⟨q, _, _, _, r3⟩ := h.getp hr
  have h1 := (r3.lt g hg).2
  have h2 := (inr.lt g hv).1
  omega
theorem PL.rd {w : World} {a : Option Addr} {n : Nat} {P : List Pr} (h : PL w a n P) {j : Nat} (hj : j < n) :
  ∃ (x o : Nat) (a1 : Option Addr) (n1 c1 : Nat) (a2 : Option Addr) (n2 c2 : Nat) (p : Pr), a = some ⟨x, o, none⟩ ∧ x < w.heap.size ∧ P[j]? = some p ∧ w.cell? ⟨x, o + j * 5, none⟩ = some (.int .i64 p.id) ∧ w.cell? ⟨x, o + j * 5 + 1, none⟩ = some (.slice a1 n1 c1) ∧
   w.cell? ⟨x, o + j * 5 + 1 + 1, none⟩ = some (.int .i64 p.left) ∧ w.cell? ⟨x, o + j * 5 + 1 + 1 + 1, none⟩ = some (.int .i64 p.right) ∧ w.cell? ⟨x, o + j * 5 + 1 + 1 + 1 + 1, none⟩ = some (.slice a2 n2 c2) ∧ Sl 1 encI w a1 n1 p.known ∧ Sl 4 encNr w a2 n2 p.near := by
 obtain ⟨x, o, a1, n1, c1, a2, n2, c2, p, e1, e2, e3, e4, e5, e6⟩ := h.at hj
 exact ⟨x, o, a1, n1, c1, a2, n2, c2, p, e1, e2, e3, e4 0 _ rfl, e4 1 _ rfl, e4 2 _ rfl, e4 3 _ rfl, e4 4 _ rfl, e5, e6⟩
def SmallP (P : List Pr) : Prop := ∀ p ∈ P, p.known.length ≤ 17592186044416 ∧ p.near.length ≤ 4398046511104
theorem OwnP.row {eP eI eN : TypeId} {base : Nat} {w : World} {v : Value} {qs : List PQ} {P : List Pr} (h : OwnP eP eI eN base w v qs P) : OwnW 5 encQ eP base w v qs := h.1
theorem encQ_one (q : PQ) : ∀ u ∈ encQ q, u.oneCell' = true := by
 intro u hu
 simp only [encQ, List.mem_cons, List.not_mem_nil, or_false] at hu
 rcases hu with rfl | rfl | rfl | rfl | rfl <;> rfl
end Go.Proofs.YtlgdjigocopglaaGreatDoor
