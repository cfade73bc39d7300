/- Texts for RepairReachesProof, RepairCrashesProof, RepairJoinsProof, RepairCleansProof, RepairRejoinsProof. -/
import Derived.Test.YtofmcalfbpjoeaaGreatDoorRpAll1
import Derived.Test.YtofmcalfbpjoeaaGreatDoorRpAll3
import Derived.Test.YtofmcalfbpjoeaaGreatDoorRpAll6
import Derived.Test.YtofmcalfbpjoeaaGreatDoorRpAll8

namespace Go.Proofs.YtofmcalfbpjoeaaGreatDoor
open Go.RowKit Go.Sort Go.Lib
instance : Inhabited Nd := ⟨Nd.zero⟩
set_option maxRecDepth 100000 in
set_option maxHeartbeats 4000000 in
theorem less_n (blk off B n c i j : Nat) (x y : Nd) (w : World) (hb : w.cell? ⟨B, 0, none⟩ = some (.slice (some ⟨blk, off, none⟩) n c)) (hi : i < n) (hj : j < n) (hn : n < 4611686018427387904)
  (x0 : w.cell? ⟨blk, off + i * 3, none⟩ = some (.int .i64 x.id)) (x1 : w.cell? ⟨blk, off + i * 3 + 1, none⟩ = some (.string x.key)) (x2 : w.cell? ⟨blk, off + i * 3 + 2, none⟩ = some (.int .u32 x.word))
  (y0 : w.cell? ⟨blk, off + j * 3, none⟩ = some (.int .i64 y.id)) (y1 : w.cell? ⟨blk, off + j * 3 + 1, none⟩ = some (.string y.key)) (y2 : w.cell? ⟨blk, off + j * 3 + 2, none⟩ = some (.int .u32 y.word)) :
  Calls Tryz.prog 148 #[.int .i64 i, .int .i64 j, .pointer (some ⟨B, 0, none⟩)] w fun e w' => e = .returned (.bool (ltN x y)) ∧ ∃ (q : Nat) (o1 o2 : Obj), w' = ((w.drewN q).alloc o1).alloc o2 := by
 have hil : (i : Int) < (n : Int) := by omega
 have hjl : (j : Int) < (n : Int) := by omega
 have hi0 : (0 : Int) ≤ (i : Int) := by omega
 have hj0 : (0 : Int) ≤ (j : Int) := by omega
 have nb := World.new_ne w _ hb
 have nx0 := World.new_ne w _ x0
 have ny0 := World.new_ne w _ y0
 go_enter Tryz.func148, Tryz.ntmps148
 go_wp2
 go_region_held3 (fun w' => w'.cell? ⟨B, 0, none⟩ = some (.slice (some ⟨blk, off, none⟩) n c) ∧ w'.cell? ⟨blk, off + i * 3, none⟩ = some (.int .i64 x.id) ∧ w'.cell? ⟨blk, off + i * 3 + 1, none⟩ = some (.string x.key) ∧ w'.cell? ⟨blk, off + i * 3 + 2, none⟩ = some (.int .u32 x.word) ∧ w'.cell? ⟨blk, off + j * 3, none⟩ = some (.int .i64 y.id) ∧ w'.cell? ⟨blk, off + j * 3 + 1, none⟩ = some (.string y.key) ∧ w'.cell? ⟨blk, off + j * 3 + 2, none⟩ = some (.int .u32 y.word))
  (go_keep) (fail)
 all_goals
  cases h1 : Op.bytesLess x.key.toList y.key.toList with
  | true =>
   have HL : Hid (ltN x y = true) := Lib.hid (by unfold ltN; rw [h1]; rfl)
   go_wp2
   go_ret
   exact ⟨by rw [HL.out]; rfl, 1, _, _, rfl⟩
  | false =>
   cases h2 : (x.key.toList == y.key.toList) with
   | false =>
    have HL : Hid (ltN x y = false) := Lib.hid (by unfold ltN; rw [h1, h2]; rfl)
    go_wp2
    go_ret
    exact ⟨by rw [HL.out]; rfl, 1, _, _, rfl⟩
   | true =>
    by_cases h3 : x.id < y.id
    ·have HL : Hid (ltN x y = true) := Lib.hid (by unfold ltN; rw [h1, h2, decide_eq_true h3]; rfl)
     go_wp2
     go_ret
     exact ⟨by rw [HL.out]; rfl, 1, _, _, rfl⟩
    ·have HL : Hid (ltN x y = false) := Lib.hid (by unfold ltN; rw [h1, h2, decide_eq_false h3]; rfl)
     go_wp2
     go_ret
     exact ⟨by rw [HL.out]; rfl, 1, _, _, rfl⟩
end Go.Proofs.YtofmcalfbpjoeaaGreatDoor
namespace Go.Proofs.YtofmcalfbpjoeaaGreatDoor
open Go.RowKit Go.Sort Go.Lib
theorem lessg_n (blk off B n c : Nat) (d : Array Nd) (w : World) (hd : d.size = n) (hH : HoldsK encN 3 w blk off d) (hblk : blk < w.heap.size) (hbox : w.cell? ⟨B, 0, none⟩ = some (.slice (some ⟨blk, off, none⟩) n c)) (hne : B ≠ blk) (hn : n < 4611686018427387904) :
  LessG Tryz.prog 148 #[.pointer (some ⟨B, 0, none⟩)] encN 3 ltN blk off d.size w := by
 intro m os dk hs i j hi hj
 have hB : B < w.heap.size := World.block_lt_of_cell? w _ hbox
 have hHk : HoldsK encN 3 (sortWorldK encN 3 w blk off m dk os) blk off dk := holdsK_sortWorldK encN 3 w blk off m d dk os hblk hH hs
 have hb : (sortWorldK encN 3 w blk off m dk os).cell? ⟨B, 0, none⟩ = some (.slice (some ⟨blk, off, none⟩) n c) := by
  unfold sortWorldK
  rw [cell?_grow _ _ _ (by rw [size_putRowK]; exact hB), cell?_putRowK_other encN 3 _ blk off _ _ hne]
  exact hbox
 refine (less_n blk off B n c i j dk[i]! dk[j]! _ hb (by omega) (by omega) hn (hHk.cell (i := i) (c := 0) (by omega) (by omega)).1 (hHk.cell (i := i) (c := 1) (by omega) (by omega)).1 (hHk.cell (i := i) (c := 2) (by omega) (by omega)).1
  (hHk.cell (i := j) (c := 0) (by omega) (by omega)).1 (hHk.cell (i := j) (c := 1) (by omega) (by omega)).1 (hHk.cell (i := j) (c := 2) (by omega) (by omega)).1).mono ?_
 rintro e w' ⟨rfl, q, o1, o2, rfl⟩
 refine ⟨rfl, q, #[o1, o2], ?_⟩
 rw [sortWorldK_drewN, alloc_eq_grow, alloc_eq_grow, grow_grow]
 unfold sortWorldK
 rw [grow_grow]
 rfl
set_option maxRecDepth 100000 in
set_option maxHeartbeats 2000000 in
theorem clone_n (a : Option Addr) (n c : Nat) (l : List Nd) (w : World) (h : Sl 3 encN w a n l) (hn : n ≤ 1000) :
  Calls Tryz.prog 117 #[.slice a n c] w fun e w' => ∃ v, e = .returned v ∧ OwnL 3 encN 78 w.heap.size w' v l ∧ Ex w w' := by
 have HL := Lib.hid h.len
 cases a with
 | none =>
  have hn0 : n = 0 := by
   rcases h.2 with h0 | ⟨x, o, e, _⟩
   ·exact h0
   ·cases e
  have hl : l = [] := List.eq_nil_of_length_eq_zero (HL.out.trans hn0)
  subst hn0 hl
  clear h HL
  have hq : ∀ w : World, (binOp .eql 23 (.slice none 0 c) (.slice none 0 0)).run Tryz.prog w = .ok (.bool true) w := fun w => Lib.run_eql_slice_nil w 23 78 none 0 c 0 0 Tryz.underlying23
  go_enter Tryz.func117, Tryz.ntmps117
  go_wp2
  go_ret
  exact ⟨_, rfl, OwnL.nil _ _ _ _ _, Ex.refl _⟩
 | some A =>
  have q0 := Ex.new w (.cells #[] 78)
  have h0 := h.nx q0
  have own0 : OwnL 3 encN 78 w.heap.size (w.alloc (.cells #[] 78)) (.slice (some ⟨w.heap.size, 0, none⟩) 0 0) [] := OwnL.empty (Nat.le_refl _) rfl
  clear h
  have hq : ∀ w : World, (binOp .eql 23 (.slice (some A) n c) (.slice none 0 0)).run Tryz.prog w = .ok (.bool false) w := fun w => Lib.run_eql_slice_nil w 23 78 (some A) n c 0 0 Tryz.underlying23
  go_enter Tryz.func117, Tryz.ntmps117
  go_wp2_with (at_builtin; (refine wpList_append_rd (enc := encN) _ rfl _ _ 23 rfl w.heap.size 78 (.agg #[.int .i64 0, .string ByteArray.empty, .int .u32 0]) 3 32 Tryz.underlying23 Tryz.infoN rfl (by omega) (by omega) _ [] own0 rfl _ (some A) n c l h0 (fun h => by cases h) (fun _ => rfl) (by simp [encN, Value.oneCell']) rfl (by simp) (by omega) (by simp) ?_); intro v1 w1 own1 hch0 hch1)
  go_ret
  rw [List.nil_append] at own1
  exact ⟨_, rfl, own1, Chg.trans q0 hch1⟩
end Go.Proofs.YtofmcalfbpjoeaaGreatDoor
