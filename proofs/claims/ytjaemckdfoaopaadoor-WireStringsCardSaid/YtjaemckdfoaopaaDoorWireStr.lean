/- The walk over WireStrings. -/
import Derived.Test.YtjaemckdfoaopaaDoorWireT
import Derived.Test.YtjaemckdfoaopaaDoorWireSane
import Derived.Test.YtjaemckdfoaopaaDoorKey
namespace Go.Proofs.YtjaemckdfoaopaaDoor
open Go.RowKit

def StrRel (b : Nat) (w : World) (i : Value) (wr : World) : Prop := ∃ k : Nat, k ≤ 5 ∧ i = .int .i64 k ∧ Exl b w wr ∧ TK wr b
theorem encStr_bd (s : ByteArray) (h : s.size ≤ 64) : 1 ≤ (encStr s).length ∧ (encStr s).length ≤ 80 := by
  have h1 := encU_pos s.size
  have h2 := encU_length s.size
  rw [encStr_length]
  omega

set_option maxRecDepth 100000 in
set_option maxHeartbeats 8000000 in
theorem wirestr_walk (a1 : Option Addr) (n1 c1 : Nat) (l1 : List Int) (a2 : Option Addr) (n2 c2 : Nat) (l2 : List UInt8) (s : ByteArray) (lim : Int) (w : World)
    (h1 : Sl 1 encI w a1 n1 l1) (hc1 : n1 ≤ c1) (hm1 : c1 ≤ maxLen) (h2 : Sl 1 encB w a2 n2 l2) (hc2 : n2 ≤ c2) (hm2 : c2 ≤ maxLen) (hnil : a2 = none → c2 = 0) (hlim : lim ≤ 9223372036854775807) (hL : LetG w) :
    Calls Tryd.prog 3 #[.slice a1 n1 c1, .slice a2 n2 c2, .string s, .int .i64 lim] w fun e w' => e = .returned (.bool true) ∧ Ex w w' := by
  unfold maxLen at hm2
  have HNIL := Lib.hid hnil
  clear hnil
  have hgl := hL.lt
  obtain ⟨b, hb⟩ : ∃ b, b = w.heap.size := ⟨_, rfl⟩
  have hgb : ¬ 0 = b := by omega
  go_enter Tryd.func3, Tryd.ntmps3
  go_wp2_with fail
  refine (new_t _ _ _ l1 _ h1 hc1 hm1).mono ?_
  rintro e w1 ⟨rfl, T, k1, z1⟩
  rw [← hb] at T ⊢
  have q : Exl b w w1 := ⟨k1, by omega⟩
  clear h1 hb k1
  by_cases hbig : 5000 < n2
  · clear h2
    go_wp2_with fail
    refine (sane3_x _).mono ?_
    rintro e w2 ⟨rfl, kk⟩
    replace q := q.nx kk
    go_wp2_with fail
    go_ret
    exact ⟨rfl, q.1⟩
  have hn5 : n2 ≤ 5000 := by omega
  clear hbig
  by_cases hbig2 : 5000 < s.size
  · clear h2
    go_wp2_with fail
    refine (sane3_x _).mono ?_
    rintro e w2 ⟨rfl, kk⟩
    replace q := q.nx kk
    go_wp2_with fail
    go_ret
    exact ⟨rfl, q.1⟩
  have hs5 : s.size ≤ 5000 := by omega
  clear hbig2
  go_wp2_with fail
  go_loopw [10] (fun i wr => StrRel b w i wr) (fun i _ => 5 - (intOf i).toNat)
  case atStart => exact ⟨0, by omega, rfl, q, T⟩
  case round =>
    clear q T
    obtain ⟨k, hk, rfl, q, T⟩ := hrel
    obtain ⟨wo, rfl⟩ : ∃ wo : World, wo = wr := ⟨_, rfl⟩
    by_cases hlt : k < 5
    · have L := hL.nx q.1
      go_wp2_with fail
      refine (key_t _ T L hgb).mono ?_
      clear T L
      rintro e w2 ⟨key, rfl, hkey, T, kk⟩
      replace q := q.nxb kk
      have hbb := T.lt
      clear kk
      go_wp2_with fail
      refine (appstr_r none 0 0 [] key _ (Sl.nil _ _ _ _) (by omega) (fun _ => rfl) (by omega)).mono ?_
      rintro e w3 ⟨v, rfl, own, kk⟩
      rw [List.nil_append] at own
      replace q := q.nx kk
      replace T := T.nx kk
      have hlen := encStr_bd key hkey
      obtain ⟨A, C, rfl, sx, hC1, hC2, _⟩ := own.slf (fun _ => rfl)
      replace sx := sx.slb hbb
      generalize encStr key = X at sx hlen hC1 ⊢
      obtain ⟨m, hm⟩ : ∃ m, m = X.length := ⟨_, rfl⟩
      rw [← hm] at sx hlen hC1 ⊢
      obtain ⟨hm1', hm2'⟩ := hlen
      unfold maxLen at hC2
      clear kk own hm
      go_wp2_with fail
      refine (next_t 70 _ T (by omega) (by omega)).mono ?_
      clear T
      rintro e w4 ⟨r, rfl, r0, r1, T, kk⟩
      replace q := q.nxb kk
      replace sx := (sx.nxb kk)
      clear kk
      by_cases k2 : k = 2
      · have d2 : ((k : Int) == 2) = true := by simp; omega
        clear k2
        go_wp2_with fail
        (with_reducible refine (next_t ((m : Int) + 1) _ T (by omega) (by omega)).mono ?_)
        clear T
        rintro e w5 ⟨j, rfl, j0, j1, T, kk⟩
        obtain ⟨j, rfl⟩ := Int.eq_ofNat_of_zero_le j0
        replace q := q.nxb kk
        have sx := ((sx.nxb kk).sl).take (m := j) (by omega)
        have jm : (j : Int) ≤ (C : Int) := by omega
        have jC : j ≤ C := by omega
        clear kk
        go_wp2_with fail
        (with_reducible refine (string_p _ _ _ _ _ _ sx (by omega) (by omega) (by unfold maxLen; omega) (by omega)).mono ?_)
        rintro e wz ⟨rfl, rfl⟩
        go_wp2_with fail
        (with_reducible refine (string_r _ _ _ _ _ _ sx (by omega) (by omega) (by unfold maxLen; omega) (by omega)).mono ?_)
        rintro e wz ⟨rfl, rfl⟩
        clear sx
        go_wp2_with fail
        exact ⟨⟨k + 1, by omega, by go_num, q, T⟩, by simp [intOf]; try omega⟩
      · have d2 : ((k : Int) == 2) = false := by simp; omega
        by_cases k3 : k = 3
        · have d3 : ((k : Int) == 3) = true := by simp; omega
          have sx := h2.nx q.1
          clear k2 k3 h2
          go_wp2_with fail
          (with_reducible refine (string_p _ _ _ _ _ _ sx (by omega) (by omega) (by unfold maxLen; omega) (by omega)).mono ?_)
          rintro e wz ⟨rfl, rfl⟩
          go_wp2_with fail
          (with_reducible refine (string_r _ _ _ _ _ _ sx (by omega) (by omega) (by unfold maxLen; omega) (by omega)).mono ?_)
          rintro e wz ⟨rfl, rfl⟩
          clear sx
          go_wp2_with fail
          exact ⟨⟨k + 1, by omega, by go_num, q, T⟩, by simp [intOf]; try omega⟩
        · have d3 : ((k : Int) == 3) = false := by simp; omega
          by_cases k4 : k = 4
          · have d4 : ((k : Int) == 4) = true := by simp; omega
            clear k2 k3 k4 sx
            go_wp2_with fail
            refine (edges_t _ T).mono ?_
            clear T
            rintro e w5 ⟨N, rfl, hN, T, kk⟩
            replace q := q.nxb kk
            have HN := Lib.hid hN
            clear hN kk
            go_wp2_with fail
            refine (appuint_r none 0 0 [] N _ (Sl.nil _ _ _ _) (by omega) (fun _ => rfl) HN.out).mono ?_
            rintro e w6 ⟨v, rfl, own, kk⟩
            rw [List.nil_append] at own
            replace q := q.nx kk
            replace T := T.nx kk
            have hlen := encU_length N
            obtain ⟨A', C', rfl, sx, hD1, hD2, _⟩ := own.slf (fun _ => rfl)
            replace sx := sx.sl
            generalize encU N = X' at sx hlen hD1 ⊢
            obtain ⟨m', hm'⟩ : ∃ m, m = X'.length := ⟨_, rfl⟩
            rw [← hm'] at sx hlen hD1 ⊢
            unfold maxLen at hD2
            clear kk own hm'
            go_wp2_with fail
            (with_reducible refine (string_p _ _ _ _ _ _ sx (by omega) (by omega) (by unfold maxLen; omega) (by omega)).mono ?_)
            rintro e wz ⟨rfl, rfl⟩
            go_wp2_with fail
            (with_reducible refine (string_r _ _ _ _ _ _ sx (by omega) (by omega) (by unfold maxLen; omega) (by omega)).mono ?_)
            rintro e wz ⟨rfl, rfl⟩
            clear sx
            go_wp2_with fail
            exact ⟨⟨k + 1, by omega, by go_num, q, T⟩, by simp [intOf]; try omega⟩
          · have d4 : ((k : Int) == 4) = false := by simp; omega
            have sx := sx.sl
            clear k2 k3 k4
            go_wp2_with fail
            (with_reducible refine (string_p _ _ _ _ _ _ sx (by omega) (by omega) (by unfold maxLen; omega) (by omega)).mono ?_)
            rintro e wz ⟨rfl, rfl⟩
            go_wp2_with fail
            (with_reducible refine (string_r _ _ _ _ _ _ sx (by omega) (by omega) (by unfold maxLen; omega) (by omega)).mono ?_)
            rintro e wz ⟨rfl, rfl⟩
            clear sx
            go_wp2_with fail
            exact ⟨⟨k + 1, by omega, by go_num, q, T⟩, by simp [intOf]; try omega⟩
    · have S := Lib.hid (h2.nx (q.1.nx ((Ex.refl wo).drew)))
      have Q := Lib.hid (q.1.drew)
      clear h2 q T
      go_wp2_with fail
      refine wp_region_held_drew (S := Ex wo.drew) (by kernel_rfl) (Ex.refl _) (fun hHeld => ?_)
      refine wpAnyH_take (i := 0) (oi := { dst := some 86, op := Op.move (Operand.tmp 1), type := 23, pos := "law.go:72", after := #[], guard := none }) (v := ?_) rfl (by kernel_rfl) (by kernel_rfl) (by kernel_rfl) (fun _ _ _ h => h) (Or.inl ⟨by rfl, ?hy0⟩) (by assumption) ?rest0
      case hy0 => intro wq hSw; (go_simp); (try with_reducible rfl)
      try simp only [Act.put, List.setIfInBounds_toArray, List.set_cons_zero, List.set_cons_succ]
      refine wpAnyH_take (i := 1) (oi := { dst := some 87, op := Op.move (Operand.tmp 2), type := 9, pos := "law.go:72", after := #[], guard := none }) (v := ?_) rfl (by kernel_rfl) (by kernel_rfl) (by kernel_rfl) (fun _ _ _ h => h) (Or.inl ⟨by rfl, ?hy1⟩) (by assumption) ?rest1
      case hy1 => intro wq hSw; (go_simp); (try with_reducible rfl)
      try simp only [Act.put, List.setIfInBounds_toArray, List.set_cons_zero, List.set_cons_succ]
      refine wpAnyH_take (i := 4) (oi := { dst := some 90, op := Op.move (Operand.tmp 1), type := 23, pos := "law.go:72", after := #[], guard := none }) (v := ?_) rfl (by kernel_rfl) (by kernel_rfl) (by kernel_rfl) (fun _ _ _ h => h) (Or.inl ⟨by rfl, ?hy4⟩) (by assumption) ?rest4
      case hy4 => intro wq hSw; (go_simp); (try with_reducible rfl)
      try simp only [Act.put, List.setIfInBounds_toArray, List.set_cons_zero, List.set_cons_succ]
      refine wpAnyH_take (i := 5) (oi := { dst := some 91, op := Op.move (Operand.tmp 2), type := 9, pos := "law.go:72", after := #[], guard := none }) (v := ?_) rfl (by kernel_rfl) (by kernel_rfl) (by kernel_rfl) (fun _ _ _ h => h) (Or.inl ⟨by rfl, ?hy5⟩) (by assumption) ?rest5
      case hy5 => intro wq hSw; (go_simp); (try with_reducible rfl)
      try simp only [Act.put, List.setIfInBounds_toArray, List.set_cons_zero, List.set_cons_succ]
      refine wpAnyH_ready (rs := [2]) (by kernel_rfl) (by simp) ?_
      refine AllReadyH.cons (o := { dst := some 88, op := Op.call { callee := Callee.value (Operand.func 15), args := #[Operand.tmp 86, Operand.tmp 87], argTypes := #[23, 9] }, type := 23, pos := "law.go:72", after := #[{ on := 0, ground := Ground.data }, { on := 1, ground := Ground.data }], guard := none }) rfl (fun K hK => ?_) AllReadyH.nil
      go_simp
      refine (appstr_p _ _ _ _ _ _ S.out (by omega) HNIL.out (by omega)).mono ?_
      rintro e v1 ⟨v, rfl, own1, k1⟩
      obtain ⟨A1, N1, C1, rfl, s1, r1⟩ := run_own own1
      clear own1 r1
      refine hK.out _ _ k1 (fun _ => ?_)
      clear hK K
      try simp only [Act.put, List.setIfInBounds_toArray, List.set_cons_zero, List.set_cons_succ]
      refine wpAnyH_switch (S' := Ex v1) (fun _ hSw => Ex.nx k1 hSw) ?_
      clear hHeld
      have hHeld := Ex.refl v1
      refine wpAnyH_take (i := 3) (oi := { dst := some 89, op := Op.convert 23 9 (Operand.tmp 88), type := 9, pos := "law.go:72", after := #[{ on := 2, ground := Ground.data }], guard := none }) (v := ?_) rfl (by kernel_rfl) (by kernel_rfl) (by kernel_rfl) (fun _ _ _ h => h) (Or.inl ⟨by rfl, ?hy3⟩) (by assumption) ?rest3
      case hy3 => intro wq hSw; (have rq := run_later (cap := C1) s1 hSw; go_simp); (try with_reducible rfl)
      try simp only [Act.put, List.setIfInBounds_toArray, List.set_cons_zero, List.set_cons_succ]
      refine wpAnyH_ready (rs := [6]) (by kernel_rfl) (by simp) ?_
      refine AllReadyH.cons (o := { dst := some 92, op := Op.call { callee := Callee.value (Operand.func 8), args := #[Operand.tmp 90, Operand.tmp 91], argTypes := #[23, 9] }, type := 23, pos := "law.go:72", after := #[{ on := 4, ground := Ground.data }, { on := 5, ground := Ground.data }, { on := 2, ground := Ground.chain }], guard := none }) rfl (fun K hK => ?_) AllReadyH.nil
      go_simp
      refine (appstr_r _ _ _ _ _ _ (S.out.nx k1) (by omega) HNIL.out (by omega)).mono ?_
      rintro e v2 ⟨v, rfl, own2, k2⟩
      obtain ⟨A2, N2, C2, rfl, s2, r2⟩ := run_own own2
      clear own2 r2
      refine hK.out _ _ k2 (fun _ => ?_)
      clear hK K
      try simp only [Act.put, List.setIfInBounds_toArray, List.set_cons_zero, List.set_cons_succ]
      refine wpAnyH_switch (S' := Ex v2) (fun _ hSw => Ex.nx k2 hSw) ?_
      clear hHeld
      have hHeld := Ex.refl v2
      refine wpAnyH_take (i := 7) (oi := { dst := some 93, op := Op.convert 23 9 (Operand.tmp 92), type := 9, pos := "law.go:72", after := #[{ on := 6, ground := Ground.data }], guard := none }) (v := ?_) rfl (by kernel_rfl) (by kernel_rfl) (by kernel_rfl) (fun _ _ _ h => h) (Or.inl ⟨by rfl, ?hy7⟩) (by assumption) ?rest7
      case hy7 => intro wq hSw; (have rq := run_later (cap := C2) s2 hSw; go_simp); (try with_reducible rfl)
      try simp only [Act.put, List.setIfInBounds_toArray, List.set_cons_zero, List.set_cons_succ]
      refine wpAnyH_take (i := 8) (oi := { dst := some 94, op := Op.binOp BinOp.eql 9 (Operand.tmp 89) (Operand.tmp 93) 9, type := 4, pos := "law.go:72", after := #[{ on := 3, ground := Ground.data }, { on := 7, ground := Ground.data }], guard := none }) (v := ?_) rfl (by kernel_rfl) (by kernel_rfl) (by kernel_rfl) (fun _ _ _ h => h) (Or.inl ⟨by rfl, ?hy8⟩) (by assumption) ?rest8
      case hy8 => intro wq hSw; (go_simp); (try with_reducible rfl)
      try simp only [Act.put, List.setIfInBounds_toArray, List.set_cons_zero, List.set_cons_succ]
      refine wpAnyH_take (i := 9) (oi := { dst := some 95, op := Op.move (Operand.tmp 94), type := 4, pos := "law.go:72", after := #[{ on := 8, ground := Ground.data }, { on := 6, ground := Ground.chain }], guard := none }) (v := ?_) rfl (by kernel_rfl) (by kernel_rfl) (by kernel_rfl) (fun _ _ _ h => h) (Or.inl ⟨by rfl, ?hy9⟩) (by assumption) ?rest9
      case hy9 => intro wq hSw; (go_simp); (try with_reducible rfl)
      try simp only [Act.put, List.setIfInBounds_toArray, List.set_cons_zero, List.set_cons_succ]
      refine wpAnyH_ready (rs := [10]) (by kernel_rfl) (by simp) ?_
      refine AllReadyH.cons (o := { dst := some 96, op := Op.call { callee := Callee.value (Operand.func 7), args := #[], argTypes := #[] }, type := 4, pos := "law.go:72", after := #[{ on := 9, ground := Ground.chain }, { on := 9, ground := Ground.guard }], guard := some (9, true) }) rfl (fun K hK => ?_) AllReadyH.nil
      go_simp
      refine (sane3_x _).mono ?_
      rintro e v3 ⟨rfl, k3⟩
      refine hK.out _ _ k3 (fun _ => ?_)
      clear hK K
      try simp only [Act.put, List.setIfInBounds_toArray, List.set_cons_zero, List.set_cons_succ]
      refine wpAnyH_switch (S' := Ex v3) (fun _ hSw => Ex.nx k3 hSw) ?_
      clear hHeld
      have hHeld := Ex.refl v3
      refine wpAnyH_take (i := 11) (oi := { dst := some 97, op := Op.pick (Operand.tmp 95) (Operand.tmp 96) (Operand.const (Value.bool false)), type := 4, pos := "law.go:72", after := #[{ on := 9, ground := Ground.data }, { on := 10, ground := Ground.data }], guard := none }) (v := ?_) rfl (by kernel_rfl) (by kernel_rfl) (by kernel_rfl) (fun _ _ _ h => h) (Or.inl ⟨by rfl, ?hy11⟩) (by assumption) ?rest11
      case hy11 => intro wq hSw; (go_simp); (try with_reducible rfl)
      try simp only [Act.put, List.setIfInBounds_toArray, List.set_cons_zero, List.set_cons_succ]
      refine wpAnyH_take (i := 12) (oi := { dst := some 8, op := Op.assign (Operand.tmp 97), type := 4, pos := "law.go:72", after := #[{ on := 11, ground := Ground.data }, { on := 10, ground := Ground.chain }, { on := 0, ground := Ground.phase }, { on := 1, ground := Ground.phase }, { on := 2, ground := Ground.phase }, { on := 3, ground := Ground.phase }, { on := 4, ground := Ground.phase }, { on := 5, ground := Ground.phase }, { on := 6, ground := Ground.phase }, { on := 7, ground := Ground.phase }, { on := 8, ground := Ground.phase }, { on := 9, ground := Ground.phase }, { on := 10, ground := Ground.phase }, { on := 11, ground := Ground.phase }], guard := none }) (v := ?_) rfl (by kernel_rfl) (by kernel_rfl) (by kernel_rfl) (fun _ _ _ h => h) (Or.inl ⟨by rfl, ?hy12⟩) (by assumption) ?rest12
      case hy12 => intro wq hSw; (go_simp); (try with_reducible rfl)
      try simp only [Act.put, List.setIfInBounds_toArray, List.set_cons_zero, List.set_cons_succ]
      refine wpAnyH_done (by kernel_rfl) ?_ _
      go_wp2
      go_ret
      exact ⟨rfl, ((Q.out.nx k1).nx k2).nx k3⟩
end Go.Proofs.YtjaemckdfoaopaaDoor
