/- The walk over WireSequences. -/
import Derived.Test.YtjaemckdfoaopaaWireNum
namespace Go.Proofs.Ytjaemckdfoaopaa
open Go.RowKit

def encW (x : Nat) : List Value := [.int .u64 x]
theorem Try.infoW : (Try.prog.info? 23).map (fun i => (i.zero, i.size, i.bytes)) = some (some (.int .u64 0), 1, 8) := by kernel_rfl
def seqOne (s : ByteArray) (n : Nat) : List UInt8 := encU n ++ (encU (zig (wrap64 (n : Int))) ++ encStr s)
def seqAll (s : ByteArray) (ws : List Nat) : List UInt8 := ws.flatMap (seqOne s)
theorem seqAll_snoc (s : ByteArray) (ws : List Nat) (n : Nat) : seqAll s (ws ++ [n]) = ((seqAll s ws ++ encU n) ++ encU (zig (wrap64 (n : Int)))) ++ encStr s := by
  unfold seqAll
  rw [List.flatMap_append, List.flatMap_cons, List.flatMap_nil, List.append_nil]
  unfold seqOne
  simp only [List.append_assoc]
theorem dec_uint {N : Nat} (h : N < 18446744073709551616) (r : List UInt8) : decR (encU N ++ r) = (N, (encU N).length, 0) := by unfold decR; rw [decU_encU N r h]; rfl
theorem dec_int (n : Int) (h : -9223372036854775808 ≤ n ∧ n ≤ 9223372036854775807) (r : List UInt8) : intR (encU (zig n) ++ r) = (n, (encU (zig n)).length, 0) := by
  unfold intR; rw [decU_encU _ r (zig_lt h.1 h.2)]; simp only [unzig_zig]
theorem dec_str (s : ByteArray) (hs : s.size ≤ 200000) (r : List UInt8) : strR (encStr s ++ r) s.size = (s, ((encStr s).length : Int), 0) := by
  unfold strR encStr
  rw [List.append_assoc, decU_encU _ _ (by omega)]
  simp only []
  rw [if_neg (by omega), if_neg (by simp [bytesOf_length])]
  rw [List.drop_left, ← bytesOf_length s, List.take_left, strB_bytes]
  simp

def SeqRel (s : ByteArray) (b base : Nat) (w : World) (v bv i : Value) (wr : World) : Prop :=
  ∃ (k : Nat) (ws : List Nat) (a : Option Addr) (n cap : Nat), i = .int .i64 k ∧ k + ws.length ≤ 7 ∧ OwnL 1 encW 23 base wr v ws ∧ (∀ x ∈ ws, x < 18446744073709551616) ∧
    bv = .slice a n cap ∧ Rd 1 encB (fun k => k < wr.heap.size ∧ k ≠ b ∧ ¬ v.ownBlock = some k) wr a n (seqAll s ws) ∧ (a = none → cap = 0) ∧ n ≤ cap ∧ cap ≤ maxLen ∧ n ≤ 5030 * ws.length ∧ Exl b w wr ∧ TK wr b ∧ base ≤ wr.heap.size
def SeqRel2 (s : ByteArray) (ws : List Nat) (wo : World) (bv i : Value) : Prop :=
  ∃ (k : Nat) (a : Option Addr) (n cap : Nat), i = .int .i64 k ∧ k ≤ ws.length ∧ bv = .slice a n cap ∧ Sl 1 encB wo a n (seqAll s (ws.drop k)) ∧ n ≤ cap ∧ cap ≤ maxLen ∧ n ≤ 40000

set_option maxRecDepth 100000 in
set_option maxHeartbeats 4000000 in
theorem wireseq_walk (a1 : Option Addr) (n1 c1 : Nat) (l1 : List Int) (s : ByteArray) (w : World)
    (h1 : Sl 1 encI w a1 n1 l1) (hc1 : n1 ≤ c1) (hm1 : c1 ≤ maxLen) :
    Calls Try.prog 5 #[.slice a1 n1 c1, .string s] w fun e w' => e = .returned (.bool true) ∧ Ex w w' := by
  obtain ⟨b, hb⟩ : ∃ b, b = w.heap.size := ⟨_, rfl⟩
  go_enter Try.func5, Try.ntmps5
  go_wp2_with fail
  refine (new_t _ _ _ l1 _ h1 hc1 hm1).mono ?_
  rintro e w1 ⟨rfl, T, k1, z1⟩
  rw [← hb] at T ⊢
  have q : Exl b w w1 := ⟨k1, by omega⟩
  clear h1 hb k1
  by_cases hbig : 5000 < s.size
  · go_wp2_with fail
    refine (sane3_x _).mono ?_
    rintro e w2 ⟨rfl, kk⟩
    replace q := q.nx kk
    go_wp2_with fail
    go_ret
    exact ⟨rfl, q.1⟩
  go_wp2_with fail
  refine (next_t 8 _ T (by omega) (by omega)).mono ?_
  clear T
  rintro e w2 ⟨r, rfl, r0, r1, T, kk⟩
  obtain ⟨r, rfl⟩ := Int.eq_ofNat_of_zero_le r0
  replace q := q.nxb kk
  have hbb := T.lt
  have hs5 : s.size ≤ 5000 := by omega
  clear kk hbig
  go_wp2_with fail
  go_loopw [6, 7, 8] (fun v bv i wr => SeqRel s b w2.heap.size w v bv i wr) (fun _ _ i _ => (intOf i).toNat)
  case atStart => exact ⟨r, [], none, 0, 0, rfl, by simp; omega, OwnL.nil _ _ _ _ _, by simp, rfl, Rd.nil _ _ _ _ _, fun _ => rfl, by omega, by unfold maxLen; omega, by omega, q, T, Nat.le_refl _⟩
  case round =>
    clear q T
    obtain ⟨k, ws, a, n, cap, rfl, hk, own, hws, rfl, hsl, hnil, hcap, hmax, hn, q, T, hbase⟩ := hrel
    obtain ⟨wo, rfl⟩ : ∃ wo : World, wo = wr := ⟨_, rfl⟩
    have HW := Lib.hid hws
    have HNIL := Lib.hid hnil
    clear hws hnil
    by_cases hk0 : 0 < k
    · go_wp2_with fail
      refine (edges_t _ T).mono ?_
      clear T
      rintro e w3 ⟨N, rfl, hN, T, kk⟩
      replace q := q.nxb kk
      replace own := own.nxb hbb kk
      have hsl3 := hsl.chg kk (fun k hk => ⟨hk.1, hk.2.1⟩)
      have HN := Lib.hid hN
      have hz := kk.size
      clear hN kk hsl
      go_wp2_with (at_builtin; go_loud (refine wpList_append_lit (enc := encW) w3 rfl _ _ 40 rfl w2.heap.size 23 (.int .u64 0) 1 8 Try.underlying40 Try.infoW rfl (by omega) (by omega) _ ws own rfl N _ rfl rfl (by simp [encW, Value.oneCell']) _ rfl rfl (by omega) (by omega) _ ?_); intro v' w4 own4 hch4' hch4 hz4)
      have hsl4 : Sl 1 encB w4 a n (seqAll s ws) := (hsl3.chg hch4' (fun k hk => ⟨Nat.lt_of_lt_of_le hk.1 hz, hk.2.2⟩)).mono (fun k hk => by have := hk.1; omega)
      have q4 : Exl b w w4 := ⟨Chg.trans q.1 (Chg.mono hch4 (fun x (hx : x < w.heap.size) => by have := q.2; omega)), q.2⟩
      have T4 : TK w4 b := TP.chg T hch4 (fun x hx => by omega)
      have hlt4 := fun x hx => (own4.lt x hx).2
      have HLT := Lib.hid hlt4
      have hb4 : b < w4.heap.size := T4.lt
      clear own hsl3 hch4' hch4 q T hlt4
      go_wp2_with fail
      refine (appuint_p _ _ _ _ _ _ hsl4 (by omega) HNIL.out HN.out).mono ?_
      rintro e w5 ⟨v5, rfl, own5, kk⟩
      replace q4 := q4.nx kk
      replace T4 := T4.nx kk
      replace own4 := own4.nx kk
      have hz5 := kk.size
      obtain ⟨A5, C5, rfl, s5, hC1, hC2, hC3⟩ := own5.slf (fun _ => rfl)
      have hm5 : (seqAll s ws ++ encU N).length ≤ n + 10 := by rw [List.length_append, hsl4.len]; have := encU_length N; omega
      obtain ⟨m5, hm⟩ : ∃ m, m = (seqAll s ws ++ encU N).length := ⟨_, rfl⟩
      rw [← hm] at s5 hC1 hm5 ⊢
      have HC5 := Lib.hid hC3
      clear kk own5 hsl4 hm hC3 hC2
      go_wp2_with fail
      refine (appint_p _ _ _ _ _ _ s5.sl (by omega) HC5.out (wrap64_bd N).1 (wrap64_bd N).2).mono ?_
      rintro e w6 ⟨v6, rfl, own6, kk⟩
      replace q4 := q4.nx kk
      replace T4 := T4.nx kk
      replace own4 := own4.nx kk
      have hz6 := kk.size
      obtain ⟨A6, C6, rfl, s6, hC1, hC2, hC3⟩ := own6.slf (fun _ => rfl)
      have hm6 : (seqAll s ws ++ encU N ++ encU (zig (wrap64 (N : Int)))).length ≤ n + 20 := by rw [List.length_append, s5.len]; have := encU_length (zig (wrap64 (N : Int))); omega
      obtain ⟨m6, hm⟩ : ∃ m, m = (seqAll s ws ++ encU N ++ encU (zig (wrap64 (N : Int)))).length := ⟨_, rfl⟩
      rw [← hm] at s6 hC1 hm6 ⊢
      have HC6 := Lib.hid hC3
      clear kk own6 s5 hm hC3 hC2
      go_wp2_with fail
      refine (appstr_p _ _ _ _ _ _ s6.sl (by omega) HC6.out (by omega)).mono ?_
      rintro e w7 ⟨v7, rfl, own7, kk⟩
      replace q4 := q4.nx kk
      replace T4 := T4.nx kk
      replace own4 := own4.nx kk
      have hz7 := kk.size
      rw [← seqAll_snoc] at own7
      obtain ⟨A7, C7, rfl, s7, hC1, hC2, hC3⟩ := own7.slf (fun _ => rfl)
      have hm7 : (seqAll s (ws ++ [N])).length ≤ n + 5030 := by
        rw [seqAll_snoc, List.length_append, s6.len, encStr_length]; have := encU_length s.size; omega
      obtain ⟨m7, hm⟩ : ∃ m, m = (seqAll s (ws ++ [N])).length := ⟨_, rfl⟩
      rw [← hm] at s7 hC1 hm7 ⊢
      have HC7 := Lib.hid hC3
      have HM7 := Lib.hid hC2
      have S7 : Rd 1 encB (fun k => k < w7.heap.size ∧ k ≠ b ∧ ¬ v'.ownBlock = some k) w7 A7 m7 (seqAll s (ws ++ [N])) :=
        Rd.mono s7 (fun k hk => ⟨hk.2, by have := hk.1; omega, fun hv => by have := HLT.out k hv; have := hk.1; omega⟩)
      clear kk own7 s6 s7 hm hC3 hC2
      go_wp2_with fail
      refine ⟨⟨k - 1, ws ++ [N], A7, m7, C7, ?_, by simp; omega, own4, ?_, rfl, S7, HC7.out, hC1, HM7.out, by simp; omega, q4, T4, by omega⟩, by simp [intOf]; try omega⟩
      · rw [show ((k - 1 : Nat) : Int) = (k : Int) - 1 by omega]
      · intro x hx
        rcases List.mem_append.1 hx with hx | hx
        · exact HW.out x hx
        · simp at hx; subst hx; exact HN.out
    · obtain ⟨A0, C0, rfl, s0, hC1, hC2, hC3⟩ := own.slf (w0 := w2) (fun _ => rfl)
      have hb0 : Sl 1 encB wo a n (seqAll s ws) := Rd.mono hsl (fun k hk => hk.1)
      obtain ⟨m0, hm⟩ : ∃ m, m = ws.length := ⟨_, rfl⟩
      have HM0 := Lib.hid hm
      rw [← hm] at s0 hC1 hk hn ⊢
      have hk00 : k = 0 := by omega
      subst hk00
      rw [show ((0 : Nat) : Int) = 0 from rfl]
      have S0 := s0.sl
      unfold maxLen at hmax hC2
      clear own hsl hm s0 hC3
      go_wp2_with fail
      go_loop [7, 10] (fun bv i => SeqRel2 s ws wo bv i) (fun _ i => m0 - (intOf i).toNat)
      case atStart => exact ⟨0, a, n, cap, rfl, by omega, rfl, by simpa using hb0, hcap, by unfold maxLen; omega, by omega⟩
      case round =>
        clear hb0 hcap hmax hn
        obtain ⟨k, a, n, cap, rfl, hk2, rfl, hsl, hcap, hmax, hn⟩ := hrel
        unfold maxLen at hmax
        have hml1 : m0 ≤ ws.length := Nat.le_of_eq HM0.out
        have hml2 : ws.length ≤ m0 := Nat.le_of_eq HM0.out.symm
        by_cases hlt : k < m0
        · obtain ⟨x, o, N, rfl, hx, hy, hcell⟩ := S0.at hlt
          have e0 : wo.cell? ⟨x, o + k, none⟩ = some (.int .u64 N) := by simpa using hcell 0 _ rfl
          have hN := HW.out N (List.mem_of_getElem? hy)
          have hdr : ws.drop k = N :: ws.drop (k + 1) := by
            rw [List.drop_eq_getElem_cons (by omega)]
            congr 1
            rw [List.getElem?_eq_getElem (by omega)] at hy
            exact Option.some.inj hy
          obtain ⟨R, hR⟩ : ∃ R, R = seqAll s (ws.drop (k + 1)) := ⟨_, rfl⟩
          have hall : seqAll s (ws.drop k) = encU N ++ (encU (zig (wrap64 (N : Int))) ++ (encStr s ++ R)) := by
            rw [hR, hdr]; unfold seqAll seqOne; rw [List.flatMap_cons]; simp only [List.append_assoc]
          rw [hall] at hsl
          have hlen := hsl.len
          have hp1 := encU_pos N
          have hp2 := encU_length N
          have hq1 := encU_pos (zig (wrap64 (N : Int)))
          have hq2 := encU_length (zig (wrap64 (N : Int)))
          have hr1 := encStr_length s
          have hr2 := encU_pos s.size
          rw [List.length_append, List.length_append, List.length_append] at hlen
          have HD1 := Lib.hid (dec_uint hN (encU (zig (wrap64 (N : Int))) ++ (encStr s ++ R)))
          have HD2 := Lib.hid (dec_int (wrap64 (N : Int)) (wrap64_bd N) (encStr s ++ R))
          have HD3 := Lib.hid (dec_str s (by omega) R)
          obtain ⟨p, hp⟩ : ∃ p, p = (encU N).length := ⟨_, rfl⟩
          obtain ⟨q', hq⟩ : ∃ q', q' = (encU (zig (wrap64 (N : Int)))).length := ⟨_, rfl⟩
          obtain ⟨r', hr⟩ : ∃ r', r' = (encStr s).length := ⟨_, rfl⟩
          obtain ⟨xb, ob, yb, rfl, _⟩ := hsl.at (j := 0) (by omega)
          have sl1 : Sl 1 encB wo (some ⟨xb, ob + p, none⟩) (n - p) (encU (zig (wrap64 (N : Int))) ++ (encStr s ++ R)) := by
            have := hsl.drop (m := p) (by omega)
            rw [hp, List.drop_left, Nat.mul_one] at this
            rw [hp]; exact this
          have sl2 : Sl 1 encB wo (some ⟨xb, ob + p + q', none⟩) (n - p - q') (encStr s ++ R) := by
            have := sl1.drop (m := q') (by omega)
            rw [hq, List.drop_left, Nat.mul_one] at this
            rw [hq]; exact this
          have sl3 : Sl 1 encB wo (some ⟨xb, ob + p + q' + r', none⟩) (n - p - q' - r') R := by
            have := sl2.drop (m := r') (by omega)
            rw [hr, List.drop_left, Nat.mul_one] at this
            rw [hr]; exact this
          rw [Nat.add_assoc, Nat.sub_sub] at sl2
          rw [Nat.add_assoc, Nat.add_assoc, Nat.sub_sub, Nat.sub_sub, ← Nat.add_assoc p] at sl3
          rw [← hp] at HD1 hp1 hp2 hlen
          rw [← hq] at HD2 hq1 hq2 hlen
          rw [← hr] at HD3 hr1 hlen
          have HR := Lib.hid hR
          have pc : p < cap := by omega
          have qc : p + q' < cap := by omega
          have tot : p + q' + r' ≤ n := by omega
          have rb : r' ≤ 5010 := by have := encU_length s.size; omega
          have r1 : 1 ≤ r' := by omega
          clear hcell hy hN hdr hall hR hp hq hr hlen hr1 hr2
          go_wp2_with fail
          refine (uint_p _ _ _ _ _ hsl (by omega)).mono ?_
          rintro e w8 ⟨rfl, rfl⟩
          rw [HD1.out]
          go_wp2_with fail
          refine (int_p _ _ _ _ _ sl1 (by omega)).mono ?_
          rintro e w8 ⟨rfl, rfl⟩
          rw [HD2.out]
          go_wp2_with fail
          (with_reducible refine (string_p _ _ _ _ _ _ sl2 (by omega) (by omega) (by unfold maxLen; omega) (by omega)).mono ?_)
          rintro e w8 ⟨rfl, rfl⟩
          rw [HD3.out]
          by_cases hfull : cap = p + q' + r'
          · have hR0 : Sl 1 encB wo (some ⟨xb, ob, none⟩) 0 R := ⟨by rw [sl3.len]; omega, .inl rfl⟩
            have hn3 : n = p + q' + r' := by omega
            have e1 : p + q' + r' - (p + q' + r') = 0 := by omega
            have E1 := Lib.hid e1
            subst hfull
            subst hn3
            clear hsl sl1 sl2 sl3 e1
            go_wp2_with fail
            refine ⟨⟨k + 1, some ⟨xb, ob, none⟩, 0, 0, by go_num, by omega, ?_, by rw [← HR.out]; exact hR0, by omega, by unfold maxLen; omega, by omega⟩, by simp [intOf]; omega⟩
            rw [E1.out]
          · clear hsl sl1 sl2
            go_wp2_with fail
            refine ⟨⟨k + 1, _, _, _, by go_num, by omega, rfl, by rw [← HR.out]; exact sl3, by omega, by unfold maxLen; omega, by omega⟩, by simp [intOf]; omega⟩
        · have hkm : k = ws.length := by omega
          have hn0 : n = 0 := by
            have := hsl.len
            rw [hkm, List.drop_length] at this
            exact this.symm
          subst hn0
          clear hsl S0 HW
          go_wp2_with fail
          refine (sane3_x _).mono ?_
          rintro e w9 ⟨rfl, kk⟩
          replace q := q.nx kk
          go_wp2_with fail
          go_ret
          exact ⟨rfl, q.1⟩
end Go.Proofs.Ytjaemckdfoaopaa
