/- Texts for the statement LinearRoundsProof, part 3 of 9: SrtI, SrtJ, IdxN, Word, Chk, SameN, Ls, Idx, ClsP, SplP, Cnt, Thr, Node, Idl, NbP, NbI, Bd, Ils, BldP, MapI, Tape, TapeK, Key, TWord, Rost, TapeBool, TId. -/
import Derived.Shelf.GgSortFunc.SmallK
import Derived.Shelf.Abstract
import Derived.Test.YtbnbjiddffihoaaGreatDoorRows
import Derived.Deep.RegionHeld3
import Derived.Deep.DeepCutAuto
import Derived.WalkArith
import Derived.Maps.OwnOps
import Derived.Maps.Views
import Derived.Test.YtbnbjiddffihoaaGreatDoorLinearRoundsProofPk1
import Derived.Test.YtbnbjiddffihoaaGreatDoorLinearRoundsProofPk2

/- sort.SliceIsSorted and sort.SliceStable over nodes. -/
namespace Go.Proofs.YtbnbjiddffihoaaGreatDoor
open Go.RowKit Go.Sort Go.Lib

noncomputable def Tryz.svT : TypeInfo := (Tryz.prog.info? 23).get (by kernel_rfl)
noncomputable def Tryz.svE : TypeInfo := (Tryz.prog.info? 57).get (by kernel_rfl)
theorem Tryz.svT_eq : Tryz.prog.info? 23 = some Tryz.svT := by kernel_rfl
theorem Tryz.svE_eq : Tryz.prog.info? 57 = some Tryz.svE := by kernel_rfl
theorem Tryz.svT_desc : Tryz.svT.desc = .slice 57 := by kernel_rfl
theorem Tryz.svT_packed : Tryz.prog.packed 23 = false := by kernel_rfl
theorem Tryz.svK (n : Nat) (h2 : 2 ≤ n) : Lib.swapperK n Tryz.svE 25 = 9 := by
  have a : Tryz.svE.hasPointers = true := by kernel_rfl
  have b : Tryz.svE.bytes = 32 := by kernel_rfl
  have c : (n == 0) = false := by simp; omega
  have d : (n == 1) = false := by simp; omega
  simp [Lib.swapperK, a, b, c, d]

theorem Tryz.glob : Tryz.prog.globals.size = 2 := by kernel_rfl
set_option maxRecDepth 100000 in
set_option maxHeartbeats 2000000 in
theorem issorted_tiny (a : Option Addr) (n c : Nat) (lf : Fn) (la lb : Array Value) (w : World) (hn : n ≤ 1) :
    Calls Tryz.prog 114 #[.iface 23 (.slice a n c), .func lf la lb] w fun e w' => e = .returned (.bool true) ∧ Ex w w' := by
  have hv := run_valueOf_slice (P := Tryz.prog) 23 57 Tryz.svT Tryz.svT_eq Tryz.svT_desc a n c w
  have hl := fun ad w ha => run_valueLen_slice (P := Tryz.prog) 23 57 Tryz.svT Tryz.svT_eq Tryz.svT_desc Tryz.svT_packed ad a n c w ha
  simp only [typeHandle, Tryz.glob] at hv hl
  have hlt : ¬ (0 : Int) < (n : Int) - 1 := by omega
  go_enter Tryz.func114, Tryz.ntmps114
  go_wp2
  rw [run_callFunc_extern Tryz.func132 (by kernel_rfl) (by kernel_rfl) (by kernel_rfl) (e := fun args => Extern.ReflectliteValue.unpack (args.getD 0 (.tuple #[]))) (by kernel_rfl),
    show Sem.run Tryz.prog ((fun args : Array Value => Extern.ReflectliteValue.unpack (args.getD 0 (.tuple #[]))) #[.iface 23 (.slice a n c)]) w = _ from hv]
  simp only [Result.andThen]
  rw [Oper.upon_value]
  go_wp2
  rw [run_callFunc_extern Tryz.func133 (by kernel_rfl) (by kernel_rfl) (by kernel_rfl) (e := Extern.ReflectliteValue.method (Extern.ReflectliteValue.valueError "reflectlite.Value.Len" 0) Extern.ReflectliteValue.len) (by kernel_rfl),
    hl _ _ (by simp)]
  simp only [Result.andThen]
  rw [Oper.upon_value]
  go_wp2
  refine wp_loop_rounds 1 ?_
  rw [rounds_succ]
  go_wp2
  go_ret
  exact ⟨rfl, ((Ex.refl w).alloc _).alloc _⟩

def IsoPost (blk off n : Nat) (d : Array Nd) (w : World) (e : Ending) (w' : World) : Prop :=
  ∃ (b : Bool) (m : Nat) (os : Array Obj), e = .returned (.bool b) ∧ (b = true → ∀ i, 0 < i → i < n → ltN d[i]! d[i - 1]! = false) ∧ w' = sortWorldK encN 3 w blk off m d os
set_option maxRecDepth 100000 in
set_option maxHeartbeats 4000000 in
theorem issorted_n (blk off B n c : Nat) (d : Array Nd) (w : World) (hd : d.size = n) (hH : HoldsK encN 3 w blk off d) (hblk : blk < w.heap.size) (hbox : w.cell? ⟨B, 0, none⟩ = some (.slice (some ⟨blk, off, none⟩) n c)) (hne : B ≠ blk) (hn0 : 1 ≤ n) (hn : n < 4611686018427387904) :
    Calls Tryz.prog 114 #[.iface 23 (.slice (some ⟨blk, off, none⟩) n c), .func (.func 113) #[] #[.pointer (some ⟨B, 0, none⟩)]] w
      (IsoPost blk off n d w) := by
  have hv := run_valueOf_slice (P := Tryz.prog) 23 57 Tryz.svT Tryz.svT_eq Tryz.svT_desc (some ⟨blk, off, none⟩) n c w
  have hl := fun ad w ha => run_valueLen_slice (P := Tryz.prog) 23 57 Tryz.svT Tryz.svT_eq Tryz.svT_desc Tryz.svT_packed ad (some ⟨blk, off, none⟩) n c w ha
  simp only [typeHandle, Tryz.glob] at hv hl
  have LG := lessg_n blk off B n c d w hd hH hblk hbox hne hn
  have HLG := Lib.hid LG
  have HD := Lib.hid hd
  have hW : ∀ o1 o2 : Obj, (w.alloc o1).alloc o2 = sortWorldK encN 3 w blk off 0 d #[o1, o2] := fun o1 o2 => by
    have : sortWorldK encN 3 w blk off 0 d #[] = w := sortWorldK_start encN 3 w blk off d hH
    rw [alloc_eq_grow, alloc_eq_grow, grow_grow]
    unfold sortWorldK at this ⊢
    rw [grow_empty] at this
    rw [this]
    rfl
  have HW := Lib.hid hW
  have eg : ∀ args w, (callFunc 113 args).run Tryz.prog w = .ok (.enter 113 args) w := enters_of Tryz.func113 (by kernel_rfl) rfl
  clear hH hd LG hW hbox
  go_enter Tryz.func114, Tryz.ntmps114
  go_wp2
  rw [run_callFunc_extern Tryz.func132 (by kernel_rfl) (by kernel_rfl) (by kernel_rfl) (e := fun args => Extern.ReflectliteValue.unpack (args.getD 0 (.tuple #[]))) (by kernel_rfl),
    show Sem.run Tryz.prog ((fun args : Array Value => Extern.ReflectliteValue.unpack (args.getD 0 (.tuple #[]))) #[.iface 23 (.slice (some ⟨blk, off, none⟩) n c)]) w = _ from hv]
  simp only [Result.andThen]
  rw [Oper.upon_value]
  go_wp2
  rw [run_callFunc_extern Tryz.func133 (by kernel_rfl) (by kernel_rfl) (by kernel_rfl) (e := Extern.ReflectliteValue.method (Extern.ReflectliteValue.valueError "reflectlite.Value.Len" 0) Extern.ReflectliteValue.len) (by kernel_rfl),
    hl _ _ (by simp)]
  simp only [Result.andThen]
  rw [Oper.upon_value]
  clear hv hl
  go_wp2
  go_loopw [7] (fun vi wr => ∃ (i m : Nat) (os : Array Obj), vi = .int .i64 i ∧ i + 1 ≤ n ∧ (∀ j, i < j → j < n → ltN d[j]! d[j - 1]! = false) ∧ wr = sortWorldK encN 3 w blk off m d os) (fun vi _ => (intOf vi).toNat)
  case atStart => exact ⟨n - 1, 0, _, by rw [Int.natCast_sub hn0]; rfl, by omega, by intro j h1 h2; omega, HW.out _ _⟩
  case round =>
    obtain ⟨i, m, os, rfl, hin, hso, hwr⟩ := hrel
    have HSO := Lib.hid hso
    have HWR := Lib.hid hwr
    clear hso hwr
    by_cases hi0 : 0 < i
    · have hi1 : (0 : Int) < (i : Int) := by omega
      have hl := HLG.out m os d rfl i (i - 1) (by rw [HD.out]; omega) (by rw [HD.out]; omega)
      rw [← HWR.out, show (((i - 1 : Nat) : Int)) = (i : Int) - 1 by omega] at hl
      cases hlv : ltN d[i]! d[i - 1]! with
      | true =>
        rw [hlv] at hl
        clear hlv
        go_wp2_with fail
        refine hl.mono ?_
        rintro e w1 ⟨rfl, q, os', hw1⟩
        have HW1 := Lib.hid hw1
        clear hw1 hl
        go_wp2_with fail
        go_ret
        exact ⟨false, m + q, os ++ os', rfl, fun h => (by cases h), HW1.out⟩
      | false =>
        rw [hlv] at hl
        have HLV := Lib.hid hlv
        clear hlv
        go_wp2_with fail
        refine hl.mono ?_
        rintro e w1 ⟨rfl, q, os', hw1⟩
        have HW1 := Lib.hid hw1
        clear hw1 hl
        go_wp2
        go_roundw
        case rel => exact ⟨i - 1, m + q, os ++ os', by rw [show ((i - 1 : Nat) : Int) = (i : Int) - 1 by omega], by omega, fun j h1 h2 => by
          rcases Nat.lt_or_ge i j with h | h
          · exact HSO.out j h h2
          · obtain rfl : j = i := by omega
            exact HLV.out, HW1.out⟩
        case measure => simp [intOf]; omega
    · have hi1 : ¬ (0 : Int) < (i : Int) := by omega
      go_wp2
      go_ret
      exact ⟨true, m, os, rfl, fun _ j h1 h2 => HSO.out j (by omega) h2, HWR.out⟩

theorem swaps_n (blk off n c : Nat) : SwapSwapsK Tryz.prog 152 #[.slice (some ⟨blk, off, none⟩) n c, .pointer (some ⟨2, 57, none⟩)] encN 3 blk off n := by
  have h := swapSwapsK_of_literal (P := Tryz.prog) false 152
    (fun args W => run_callFunc_extern Tryz.func152 (by kernel_rfl) (by kernel_rfl) (by kernel_rfl) (e := Extern.ReflectliteSwapper.swap false) (by kernel_rfl) args W)
    57 Tryz.svE Tryz.svE_eq encN 3 (fun _ => rfl) (by kernel_rfl) (fun _ => by kernel_rfl) (fun x v hv => by simp [encN] at hv; rcases hv with rfl | rfl | rfl <;> rfl) blk off n c
  rw [typeHandle, Tryz.glob] at h
  exact h
theorem swapper_n (blk off n c : Nat) (hn2 : 2 ≤ n) (w : World) : (Extern.ReflectliteSwapper.swapper "internal/reflectlite" (Extern.ReflectliteValue.valueError "Swapper") #[.iface 23 (.slice (some ⟨blk, off, none⟩) n c)]).run Tryz.prog w
    = .ok (.func (.func 152) #[] #[.slice (some ⟨blk, off, none⟩) n c, .pointer (some ⟨2, 57, none⟩)]) w := by
  have h := run_swapper_slice (P := Tryz.prog) 23 57 Tryz.svT Tryz.svE Tryz.svT_eq Tryz.svT_desc Tryz.svE_eq 25 (fun _ => by kernel_rfl) (some ⟨blk, off, none⟩) n c 152 (by rw [Tryz.svK n hn2]; kernel_rfl) w
  rw [if_neg (by rw [Tryz.svK n hn2]; omega), typeHandle, Tryz.glob] at h
  exact h
set_option maxRecDepth 100000 in
set_option maxHeartbeats 4000000 in
theorem slicestable_n (blk off B n c : Nat) (d : Array Nd) (w : World) (hd : d.size = n) (hH : HoldsK encN 3 w blk off d) (hblk : blk < w.heap.size) (hbox : w.cell? ⟨B, 0, none⟩ = some (.slice (some ⟨blk, off, none⟩) n c)) (hne : B ≠ blk) (hn2 : 2 ≤ n) (hn : n < 1152921504606846976) :
    Calls Tryz.prog 115 #[.iface 23 (.slice (some ⟨blk, off, none⟩) n c), .func (.func 113) #[] #[.pointer (some ⟨B, 0, none⟩)]] w
      (SrtPost encN 3 w blk off fun d' => PermIn 0 n d d' ∧ SortedIn ltN 0 n d') := by
  have hv := run_valueOf_slice (P := Tryz.prog) 23 57 Tryz.svT Tryz.svT_eq Tryz.svT_desc (some ⟨blk, off, none⟩) n c w
  have hl := fun ad w ha => run_valueLen_slice (P := Tryz.prog) 23 57 Tryz.svT Tryz.svT_eq Tryz.svT_desc Tryz.svT_packed ad (some ⟨blk, off, none⟩) n c w ha
  have hs := fun w => swapper_n blk off n c hn2 w
  have HSW := Lib.hid (swaps_n blk off n c)
  simp only [typeHandle, Tryz.glob] at hv hl
  have LG := lessg_n blk off B n c d w hd hH hblk hbox hne (by omega)
  have hW : ∀ o1 o2 : Obj, (w.alloc o1).alloc o2 = sortWorldK encN 3 w blk off 0 d #[o1, o2] := fun o1 o2 => by
    have : sortWorldK encN 3 w blk off 0 d #[] = w := sortWorldK_start encN 3 w blk off d hH
    rw [alloc_eq_grow, alloc_eq_grow, grow_grow]
    unfold sortWorldK at this ⊢
    rw [grow_empty] at this
    rw [this]
    rfl
  have eg : ∀ args w, (callFunc 113 args).run Tryz.prog w = .ok (.enter 113 args) w := enters_of Tryz.func113 (by kernel_rfl) rfl
  have ST : Hid (∀ (o1 o2 : Obj), Calls Tryz.prog 135 #[dta 113 #[.pointer (some ⟨B, 0, none⟩)] 152 #[.slice (some ⟨blk, off, none⟩) n c, .pointer (some ⟨2, 57, none⟩)], .int .i64 n] ((w.alloc o1).alloc o2)
      (SrtPost encN 3 w blk off fun d' => PermIn 0 n d d' ∧ SortedIn ltN 0 n d')) := Lib.hid (fun o1 o2 => by
    rw [hW]
    have hsw : SwapSwapsK Tryz.prog 152 #[.slice (some ⟨blk, off, none⟩) n c, .pointer (some ⟨2, 57, none⟩)] encN 3 blk off d.size := by rw [hd]; exact HSW.out
    refine (stable_s (enc := encN) (kk := 3) (lt := ltN) (fun _ => rfl) swo_ltN 113 #[.pointer (some ⟨B, 0, none⟩)] 152 #[.slice (some ⟨blk, off, none⟩) n c, .pointer (some ⟨2, 57, none⟩)] eg blk off n d _ hd (LG.on hblk 0 d _ rfl) hsw (holdsK_sortWorldK encN 3 w blk off 0 d d _ hblk hH rfl) (lt_sortWorldK encN 3 w blk off 0 d _ hblk) hn).mono ?_
    rintro e w' ⟨rfl, m, os, d', hp, rfl⟩
    exact ⟨rfl, 0 + m, #[o1, o2] ++ os, d', hp, sortWorldK_on encN 3 w blk off 0 m d d' _ os hblk (by rw [hp.1.1])⟩)
  clear hH hd LG hW hbox HSW eg
  go_enter Tryz.func115, Tryz.ntmps115
  go_wp2
  rw [run_callFunc_extern Tryz.func132 (by kernel_rfl) (by kernel_rfl) (by kernel_rfl) (e := fun args => Extern.ReflectliteValue.unpack (args.getD 0 (.tuple #[]))) (by kernel_rfl),
    show Sem.run Tryz.prog ((fun args : Array Value => Extern.ReflectliteValue.unpack (args.getD 0 (.tuple #[]))) #[.iface 23 (.slice (some ⟨blk, off, none⟩) n c)]) w = _ from hv]
  simp only [Result.andThen]
  rw [Oper.upon_value]
  go_wp2
  rw [run_callFunc_extern Tryz.func134 (by kernel_rfl) (by kernel_rfl) (by kernel_rfl) (e := Extern.ReflectliteSwapper.swapper "internal/reflectlite" (Extern.ReflectliteValue.valueError "Swapper")) (by kernel_rfl), hs]
  simp only [Result.andThen]
  rw [Oper.upon_value]
  go_wp2
  rw [run_callFunc_extern Tryz.func133 (by kernel_rfl) (by kernel_rfl) (by kernel_rfl) (e := Extern.ReflectliteValue.method (Extern.ReflectliteValue.valueError "reflectlite.Value.Len" 0) Extern.ReflectliteValue.len) (by kernel_rfl),
    hl _ _ (by simp)]
  simp only [Result.andThen]
  rw [Oper.upon_value]
  clear hv hl hs
  go_wp2_with fail
  refine (ST.out _ _).mono ?_
  rintro e w' ⟨rfl, m, os, d', hp, hw⟩
  have HP := Lib.hid hp
  have HW := Lib.hid hw
  clear hp hw ST
  go_wp2
  go_end0
  exact ⟨rfl, m, os, d', HP.out, HW.out⟩
end Go.Proofs.YtbnbjiddffihoaaGreatDoor

/- Sort of the package roster. -/
namespace Go.Proofs.YtbnbjiddffihoaaGreatDoor
open Go.RowKit Go.Sort Go.Lib

theorem flatK_list (d : Array Nd) : flatK encN 3 d = (d.toList.flatMap encN).toArray := by
  have hlen : (d.toList.flatMap encN).length = d.size * 3 := by rw [flatW_len (sz := 3) (fun _ => rfl), Array.length_toList]
  refine ext_get! (by rw [size_flatK]; simp [hlen]) fun t ht => ?_
  rw [size_flatK] at ht
  rw [get_flatK encN 3 d t ht]
  have hd : t / 3 < d.size := by omega
  have hm : t % 3 < (encN d[t / 3]!).length := by show t % 3 < 3; omega
  have h1 : d.toList[t / 3]? = some d[t / 3]! := by
    rw [getElem!_pos d (t / 3) hd, List.getElem?_eq_getElem (by simpa using hd)]
    simp
  have h := flat_at (enc := encN) (sz := 3) (fun _ => rfl) d.toList (t / 3) d[t / 3]! h1 (t % 3) _ (List.getElem?_eq_getElem hm)
  rw [show t / 3 * 3 + t % 3 = t by omega] at h
  rw [getElem!_pos (encN d[t / 3]!) (t % 3) hm]
  have ht' : t < (d.toList.flatMap encN).length := by omega
  rw [getElem!_pos _ t (by simpa using ht')]
  rw [List.getElem?_eq_getElem ht'] at h
  simpa using (Option.some.inj h).symm
theorem own_holds {e : TypeId} {base g n cap : Nat} {w : World} {l : List Nd} (h : OwnL 3 encN e base w (.slice (some ⟨g, 0, none⟩) n cap) l) : HoldsK encN 3 w g 0 l.toArray := by
  rcases h.2 with ⟨h1, _⟩ | ⟨g', cap', cur, e1, e2, e3, e4, e5, e6, e7⟩
  · cases h1
  · cases e1
    intro j hj
    rw [flatK_list] at hj ⊢
    have hj' : j < (l.flatMap encN).length := by simpa using hj
    refine ⟨?_, by simp [World.frozen?, e3]⟩
    have h1 : (cur.toList.take (l.length * 3))[j]? = some (l.flatMap encN)[j] := by rw [e7]; exact List.getElem?_eq_getElem hj'
    rw [flatW_len (sz := 3) (fun _ => rfl)] at hj'
    rw [List.getElem?_take, if_pos hj'] at h1
    have h2 : cur[j]? = some (l.flatMap encN)[j] := by simpa using h1
    rw [getElem!_pos _ j hj]
    simp [World.cell?, e3, h2]
theorem sortWorldK_heap {w : World} {g m : Nat} {cur : Array Value} {e : TypeId} {fr : Nat × Nat} (d : Array Nd) (os : Array Obj) (h : w.heap[g]? = some (.cells cur e fr)) :
    (sortWorldK encN 3 w g 0 m d os).heap[g]? = some (.cells (putCells id 0 (flatK encN 3 d) cur) e fr) := by
  have hg : g < (w.heap.modify g (onCells (putCells id 0 (flatK encN 3 d)))).size := by simp; exact heap_lt h
  show ((w.heap.modify g (onCells (putCells id 0 (flatK encN 3 d)))) ++ os)[g]? = _
  rw [Array.getElem?_append_left hg, Array.getElem?_modify, if_pos rfl, h]
  rfl
theorem sortWorldK_exb (w : World) (g m : Nat) (d : Array Nd) (os : Array Obj) : Exb g w (sortWorldK encN 3 w g 0 m d os) := by
  refine ⟨rfl, rfl, rfl, ?_, fun k hk => ?_⟩
  · show _ ≤ ((w.heap.modify g (onCells (putCells id 0 (flatK encN 3 d)))) ++ os).size
    simp
  · have hg : k < (w.heap.modify g (onCells (putCells id 0 (flatK encN 3 d)))).size := by simp; exact hk.1
    show ((w.heap.modify g (onCells (putCells id 0 (flatK encN 3 d)))) ++ os)[k]? = _
    rw [Array.getElem?_append_left hg, Array.getElem?_modify, if_neg (fun h => hk.2 h.symm)]
theorem own_sorted {e : TypeId} {base g n cap m : Nat} {w : World} {l : List Nd} (h : OwnL 3 encN e base w (.slice (some ⟨g, 0, none⟩) n cap) l) (d : Array Nd) (hd : d.size = l.length) (os : Array Obj) :
    OwnL 3 encN e base (sortWorldK encN 3 w g 0 m d os) (.slice (some ⟨g, 0, none⟩) n cap) d.toList := by
  rcases h.2 with ⟨h1, _⟩ | ⟨g', cap', cur, e1, e2, e3, e4, e5, e6, e7⟩
  · cases h1
  · cases e1
    have hl : d.toList.length = l.length := by rw [Array.length_toList, hd]
    refine ⟨by rw [flatW_len (sz := 3) (fun _ => rfl)], .inr ⟨g, cap, _, by rw [hl], e2, sortWorldK_heap d os e3, by rw [hl]; exact e4, e5, by simpa [putCells] using e6, ?_⟩⟩
    have hf : (flatK encN 3 d).size = l.length * 3 := by rw [size_flatK, hd]
    rw [hl]
    apply List.ext_getElem?
    intro j
    rw [List.getElem?_take]
    by_cases hj : j < l.length * 3
    · rw [if_pos hj]
      have hjc : j < cur.size := by
        have := Nat.mul_le_mul_right 3 e4
        omega
      have hp : (putCells id 0 (flatK encN 3 d) cur)[j]? = some (flatK encN 3 d)[j]! := by
        unfold putCells
        rw [Array.getElem?_mapIdx, Array.getElem?_eq_getElem hjc, Option.map_some, if_pos (by omega)]
        rfl
      rw [Array.getElem?_toList, hp, getElem!_pos _ j (by omega)]
      have hx := congrArg Array.toList (flatK_list d)
      have : (d.toList.flatMap encN) = (flatK encN 3 d).toList := by rw [flatK_list]
      rw [this, List.getElem?_eq_getElem (by rw [Array.length_toList]; omega)]
      simp
    · rw [if_neg hj]
      symm
      rw [List.getElem?_eq_none]
      rw [flatW_len (sz := 3) (fun _ => rfl), hl]; omega

def SoPost (l : List Nd) (w : World) (e : Ending) (w' : World) : Prop :=
  ∃ (v : Value) (S : List Nd), e = .returned v ∧ OwnL 3 encN 57 w.heap.size w' v S ∧ (S.Perm l ∧ AscN S) ∧ Ex w w'
theorem asc_of_adj {l : List Nd} (h : ∀ i, 0 < i → i < l.length → ltN l.toArray[i]! l.toArray[i - 1]! = false) : AscN l := by
  have : ∀ (k i : Nat), i + k < l.length → ltN l.toArray[i + k]! l.toArray[i]! = false := by
    intro k
    induction k with
    | zero => intro i _; exact swo_ltN.irrefl _
    | succ k ih =>
      intro i hi
      have h1 := h (i + (k + 1)) (by omega) hi
      rw [show i + (k + 1) - 1 = i + k by omega] at h1
      exact swo_ltN.ntrans _ _ _ h1 (ih i (by omega))
  unfold AscN
  rw [List.pairwise_iff_getElem]
  intro i j hi hj hij
  have := this (j - i) i (by omega)
  rw [show i + (j - i) = j by omega, getElem!_pos _ j (by simpa using hj), getElem!_pos _ i (by simpa using hi)] at this
  simpa using this
theorem asc_of_sorted {n : Nat} {d : Array Nd} (h : SortedIn ltN 0 n d) (hn : d.size = n) : AscN d.toList := by
  unfold AscN
  rw [List.pairwise_iff_getElem]
  intro i j hi hj hij
  have hi' : i < d.size := by simpa using hi
  have hj' : j < d.size := by simpa using hj
  have := h i j (Nat.zero_le _) hij (by omega)
  rw [getElem!_pos d j hj', getElem!_pos d i hi'] at this
  simpa using this
theorem perm_of_permIn {n : Nat} {l : List Nd} {d : Array Nd} (h : PermIn 0 n l.toArray d) (hn : l.length = n) : d.toList.Perm l := by
  have h3 := h.2.2
  have hs : d.size = n := by rw [h.1]; simpa using hn
  rw [show d.extract 0 n = d by rw [← hs]; exact Array.extract_size, show l.toArray.extract 0 n = l.toArray by rw [← hn]; simp] at h3
  simpa using h3
theorem asc_small {l : List Nd} (h : l.length ≤ 1) : AscN l := by
  match l, h with
  | [], _ => exact List.Pairwise.nil
  | [x], _ => exact List.pairwise_singleton _ _

set_option maxRecDepth 100000 in
set_option maxHeartbeats 4000000 in
theorem sort_p (a : Option Addr) (n c : Nat) (l : List Nd) (w : World) (h : Sl 3 encN w a n l) (hn : n ≤ 1000) :
    Calls Tryz.prog 73 #[.slice a n c] w (SoPost l w) := by
  have HL := Lib.hid h.len
  go_enter Tryz.func73, Tryz.ntmps73
  go_wp2_with fail
  (with_reducible refine (clone_n _ _ _ _ _ h hn).mono ?_)
  rintro e w1 ⟨v1, rfl, own1, k1⟩
  clear h
  have O1 := Lib.hid own1
  have K1 := Lib.hid k1
  by_cases hn2 : n ≤ 1
  · obtain ⟨a1, c1, rfl, _, _, _, _⟩ := own1.slf (fun _ => rfl)
    rw [HL.out] at own1 ⊢
    have B2 := Blk.new w1 [.slice a1 n c1] 23
    have k2 := Ex.new w1 (.cells #[.slice a1 n c1] 23)
    obtain ⟨w2, hw2⟩ : ∃ w2, w2 = w1.alloc (.cells #[.slice a1 n c1] 23) := ⟨_, rfl⟩
    obtain ⟨B, hB⟩ : ∃ B, B = w1.heap.size := ⟨_, rfl⟩
    have B2 : Blk w2 B [.slice a1 n c1] 23 := by rw [hw2, hB]; exact B2
    rw [← hw2] at k2
    have HW2 := Lib.hid hw2
    have HB := Lib.hid hB
    have q0 := B2.cell 0 _ rfl
    have K2 := Lib.hid (k1.nx k2)
    have O2 := Lib.hid (own1.nx k2)
    clear own1 k1 hw2 hB k2
    go_wp2_with fail
    rw [← HB.out, ← HW2.out]
    go_wp2_with fail
    (with_reducible refine (issorted_tiny _ _ _ _ _ _ _ hn2).mono ?_)
    rintro e w3 ⟨rfl, k3⟩
    have B3 := B2.nx k3
    have q3 := B3.cell 0 _ rfl
    have O3 := Lib.hid (O2.out.nx k3)
    have K3 := Lib.hid (K2.out.nx k3)
    clear q0 B2 B3 k3
    go_wp2_with fail
    go_ret
    exact ⟨_, l, rfl, O3.out, ⟨List.Perm.refl _, asc_small (by rw [HL.out]; exact hn2)⟩, K3.out⟩
  · obtain ⟨g, cap, rfl, hgw⟩ : ∃ g cap, v1 = .slice (some ⟨g, 0, none⟩) n cap ∧ w.heap.size ≤ g := by
      rcases own1.2 with ⟨_, h1⟩ | ⟨g', cap', cur, e1, e2, _⟩
      · have := HL.out; omega
      · exact ⟨g', cap', by rw [e1, HL.out], e2⟩
    have hgl : g < w1.heap.size := (own1.lt g rfl).2
    have B2 := Blk.new w1 [.slice (some ⟨g, 0, none⟩) n cap] 23
    have k2 := Ex.new w1 (.cells #[.slice (some ⟨g, 0, none⟩) n cap] 23)
    obtain ⟨w2, hw2⟩ : ∃ w2, w2 = w1.alloc (.cells #[.slice (some ⟨g, 0, none⟩) n cap] 23) := ⟨_, rfl⟩
    obtain ⟨B, hB⟩ : ∃ B, B = w1.heap.size := ⟨_, rfl⟩
    have B2 : Blk w2 B [.slice (some ⟨g, 0, none⟩) n cap] 23 := by rw [hw2, hB]; exact B2
    rw [← hw2] at k2
    have hBg : B ≠ g := by omega
    have hwB : w.heap.size ≤ B := by have := k1.size; omega
    have HW2 := Lib.hid hw2
    have HB := Lib.hid hB
    have q0 := B2.cell 0 _ rfl
    have K2 := Lib.hid (k1.nx k2)
    have O2 := Lib.hid (own1.nx k2)
    have hg2 : g < w2.heap.size := by have := k2.size; omega
    have B2 := Lib.hid B2
    clear own1 k1 hw2 hB k2
    go_wp2_with fail
    rw [← HB.out, ← HW2.out]
    go_wp2_with fail
    (with_reducible refine (issorted_n g 0 B n cap l.toArray w2 (by simpa using HL.out) (own_holds O2.out) hg2 q0 hBg (by omega) (by omega)).mono ?_)
    rintro e w3 ⟨b, m, os, rfl, hb, hw3⟩
    have O3 := own_sorted (m := m) O2.out l.toArray (by simp) os
    have kx := sortWorldK_exb w2 g m l.toArray os
    rw [← hw3] at O3 kx
    have B3 := B2.out.nxb hBg kx
    have q3 := B3.cell 0 _ rfl
    have K3 := Lib.hid (Ex.of_exb ((K2.out.b g).nxb kx) hgw)
    have hg3 : g < w3.heap.size := by have := kx.size; omega
    have O3 := Lib.hid O3
    have B3 := Lib.hid B3
    clear hw3 q0 B2 kx
    cases b with
    | true =>
      have HAS : Hid (AscN l) := Lib.hid (asc_of_adj (fun i h1 h2 => hb rfl i h1 (by rw [← HL.out]; exact h2)))
      clear hb
      go_wp2_with fail
      go_ret
      exact ⟨_, l, rfl, O3.out, ⟨List.Perm.refl _, HAS.out⟩, K3.out⟩
    | false =>
      clear hb
      go_wp2_with fail
      (with_reducible refine (slicestable_n g 0 B n cap l.toArray w3 (by simpa using HL.out) (own_holds O3.out) hg3 q3 hBg (by omega) (by omega)).mono ?_)
      rintro e w4 ⟨rfl, m, os, d, ⟨hp, hso⟩, hw4⟩
      have hd : d.size = l.length := by rw [hp.1]; simp
      have O4 := own_sorted (m := m) O3.out d hd os
      have kx := sortWorldK_exb w3 g m d os
      rw [← hw4] at O4 kx
      have B4 := B3.out.nxb hBg kx
      have q4 := B4.cell 0 _ rfl
      have K4 := Lib.hid (Ex.of_exb ((K3.out.b g).nxb kx) hgw)
      have O4 := Lib.hid O4
      have HP : Hid (d.toList.Perm l ∧ AscN d.toList) := Lib.hid ⟨perm_of_permIn hp HL.out, asc_of_sorted hso (by rw [hd]; exact HL.out)⟩
      clear hw4 q3 B4 kx hp hso hd
      go_wp2_with fail
      go_ret
      exact ⟨_, d.toList, rfl, O4.out, HP.out, K4.out⟩
end Go.Proofs.YtbnbjiddffihoaaGreatDoor

/- slices.IndexFunc and ContainsFunc over nodes; Find and Check of the package roster. -/
namespace Go.Proofs.YtbnbjiddffihoaaGreatDoor
open Go.RowKit

def PredG (g : Nat) (lb : Array Value) (p : Nd → Bool) (w : World) : Prop := ∀ (x : Nd) (w' : World), Ex w w' → Calls Tryz.prog g (#[x.val] ++ lb) w' fun e w'' => e = .returned (.bool (p x)) ∧ Ex w' w''
theorem PredG.nx {g : Nat} {lb : Array Value} {p : Nd → Bool} {w w' : World} (h : PredG g lb p w) (k : Ex w w') : PredG g lb p w' := fun x w'' k2 => h x w'' (k.nx k2)
def idxB (p : Nd → Bool) (l : List Nd) : Int := if l.findIdx p < l.length then (l.findIdx p : Int) else -1
theorem idxB_of {p : Nd → Bool} {l : List Nd} {k : Nat} {y : Nd} (hy : l[k]? = some y) (hp : p y = true) (hno : ∀ j z, j < k → l[j]? = some z → p z = false) : idxB p l = k ∧ k < l.length := by
  have hk := (List.getElem?_eq_some_iff.1 hy)
  have hk1 := hk.1
  have : l.findIdx p = k := by
    rw [List.findIdx_eq hk.1]
    refine ⟨by rw [hk.2]; exact hp, fun j hj => ?_⟩
    exact hno j _ hj (List.getElem?_eq_getElem (by omega))
  unfold idxB
  rw [this, if_pos hk.1]
  exact ⟨rfl, hk.1⟩
theorem idxB_none {p : Nd → Bool} {l : List Nd} (hno : ∀ j z, j < l.length → l[j]? = some z → p z = false) : idxB p l = -1 := by
  unfold idxB
  rw [if_neg]
  rw [List.findIdx_lt_length]
  rintro ⟨x, hx, hp⟩
  obtain ⟨j, hj⟩ := List.mem_iff_getElem?.1 hx
  rw [hno j x (List.getElem?_eq_some_iff.1 hj).1 hj] at hp
  cases hp
theorem idxB_any (p : Nd → Bool) (l : List Nd) : decide (0 ≤ idxB p l) = l.any p := by
  unfold idxB
  split
  · rename_i h
    rw [List.findIdx_lt_length] at h
    have h1 : l.any p = true := List.any_eq_true.2 h
    rw [h1]; simp
  · rename_i h
    rw [List.findIdx_lt_length] at h
    have h1 : l.any p = false := by
      rw [List.any_eq_false]
      intro x hx hp
      exact h ⟨x, hx, hp⟩
    rw [h1]; simp
def IdRel (p : Nd → Bool) (l : List Nd) (n : Nat) (w : World) (i : Value) (wr : World) : Prop :=
  ∃ k : Nat, k ≤ n ∧ i = .int .i64 k ∧ Ex w wr ∧ ∀ j z, j < k → l[j]? = some z → p z = false

set_option maxRecDepth 100000 in
set_option maxHeartbeats 2000000 in
theorem idxf_n (g : Nat) (lb : Array Value) (p : Nd → Bool) (eg : ∀ args w, (callFunc g args).run Tryz.prog w = .ok (.enter g args) w) (a : Option Addr) (n c : Nat) (l : List Nd) (w : World) (h : Sl 3 encN w a n l) (hn : n ≤ 1000000) (hp : PredG g lb p w) :
    Calls Tryz.prog 120 #[.slice a n c, .func (.func g) #[] lb] w fun e w' => e = .returned (.int .i64 (idxB p l)) ∧ Ex w w' := by
  have HL := Lib.hid h.len
  have HP := Lib.hid hp
  have hs := Lib.hid h
  clear h hp
  go_enter Tryz.func120, Tryz.ntmps120
  go_wp2
  go_loopw [8] (fun i wr => IdRel p l n w i wr) (fun i _ => n - (intOf i).toNat)
  case atStart => exact ⟨0, by omega, rfl, Ex.refl _, by intro j z h; omega⟩
  case round =>
    obtain ⟨k, hk, rfl, kw, hno⟩ := hrel
    have HNO := Lib.hid hno
    clear hno
    obtain ⟨wo, rfl⟩ : ∃ wo : World, wo = wr := ⟨_, rfl⟩
    by_cases hlt : k < n
    · obtain ⟨x1, o1, y, rfl, hx1, hy, hc1⟩ := (hs.out.nx kw).at hlt
      have e0 : wo.cell? ⟨x1, o1 + k * 3, none⟩ = some (.int .i64 y.id) := hc1 0 _ rfl
      have e1 : wo.cell? ⟨x1, o1 + k * 3 + 1, none⟩ = some (.string y.key) := hc1 1 _ rfl
      have e2 : wo.cell? ⟨x1, o1 + k * 3 + 1 + 1, none⟩ = some (.int .u32 y.word) := by simpa [Nat.add_assoc] using hc1 2 _ rfl
      have e2' : wo.cell? ⟨x1, o1 + k * 3 + 2, none⟩ = some (.int .u32 y.word) := hc1 2 _ rfl
      have HY := Lib.hid hy
      have hc := HP.out y wo kw
      have KW := Lib.hid kw
      clear hc1 hy kw
      unfold Nd.val at hc
      go_wp2_with fail
      refine hc.mono ?_
      rintro e w2 ⟨rfl, k2⟩
      have K2 := Lib.hid (KW.out.nx k2)
      clear hc k2 e0 e1 e2 e2'
      cases hb : p y with
      | true =>
        have HI : Hid (idxB p l = k) := Lib.hid (idxB_of HY.out hb HNO.out).1
        clear hb
        go_wp2_with fail
        go_ret
        exact ⟨by rw [HI.out]; rfl, K2.out⟩
      | false =>
        have HB := Lib.hid hb
        clear hb
        go_wp2_with fail
        refine ⟨⟨k + 1, by omega, by go_num, K2.out, fun j z hj hz => ?_⟩, by simp [intOf]; omega⟩
        rcases Nat.lt_or_ge j k with h | h
        · exact HNO.out j z h hz
        · obtain rfl : j = k := by omega
          rw [Option.some.inj (hz.symm.trans HY.out)]
          exact HB.out
    · obtain rfl : k = n := by omega
      have HI : Hid (idxB p l = -1) := Lib.hid (idxB_none (fun j z hj hz => HNO.out j z (by rw [← HL.out]; exact hj) hz))
      have KW := Lib.hid kw
      clear kw hk hlt
      go_wp2_with fail
      go_ret
      exact ⟨by rw [HI.out]; rfl, KW.out⟩
theorem contf_n (g : Nat) (lb : Array Value) (p : Nd → Bool) (eg : ∀ args w, (callFunc g args).run Tryz.prog w = .ok (.enter g args) w) (a : Option Addr) (n c : Nat) (l : List Nd) (w : World) (h : Sl 3 encN w a n l) (hn : n ≤ 1000000) (hp : PredG g lb p w) :
    Calls Tryz.prog 110 #[.slice a n c, .func (.func g) #[] lb] w fun e w' => e = .returned (.bool (l.any p)) ∧ Ex w w' := by
  have HA := Lib.hid (idxB_any p l)
  go_enter Tryz.func110, Tryz.ntmps110
  go_wp2_with fail
  (with_reducible refine (idxf_n g lb p eg _ _ _ _ _ h hn hp).mono ?_)
  rintro e w1 ⟨rfl, kk⟩
  clear h hp
  go_wp2_with fail
  go_ret
  exact ⟨by rw [← HA.out]; rfl, kk⟩

theorem find1_p (gx : Nat) (id : Int) (w : World) (hx : Blk w gx [.int .i64 id] 3) : PredG 121 #[.pointer (some ⟨gx, 0, none⟩)] (fun x => x.id == id) w := by
  intro x w' kk
  have q0 := (hx.nx kk).cell 0 _ rfl
  have hg := (hx.nx kk).lt
  have hne : ¬ gx = w'.heap.size := by omega
  unfold Nd.val
  clear hx kk
  go_enter Tryz.func121, Tryz.ntmps121
  go_wp2
  go_ret
  exact ⟨rfl, (Ex.refl _).alloc _⟩
theorem idxB_find (l : List Nd) (id : Int) : (∃ (k : Nat) (y : Nd), idxB (fun x => x.id == id) l = k ∧ k < l.length ∧ l[k]? = some y ∧ findN l id = (y, true)) ∨ (idxB (fun x => x.id == id) l = -1 ∧ findN l id = (Nd.zero, false)) := by
  unfold findN idxB
  by_cases h : l.findIdx (fun x => x.id == id) < l.length
  · refine .inl ⟨l.findIdx (fun x => x.id == id), l[l.findIdx (fun x => x.id == id)], by rw [if_pos h], h, List.getElem?_eq_getElem h, ?_⟩
    rw [List.find?_eq_getElem?_findIdx, List.getElem?_eq_getElem h]
  · refine .inr ⟨by rw [if_neg h], ?_⟩
    rw [List.find?_eq_getElem?_findIdx, List.getElem?_eq_none (by omega)]
def NbPost (r : Nd × Bool) (w : World) (e : Ending) (w' : World) : Prop := e = .returned (.tuple #[r.1.val, .bool r.2]) ∧ Ex w w'
set_option maxRecDepth 100000 in
set_option maxHeartbeats 2000000 in
theorem find_p (a : Option Addr) (n c : Nat) (l : List Nd) (id : Int) (w : World) (h : Sl 3 encN w a n l) (hn : n ≤ 1000000) :
    Calls Tryz.prog 82 #[.slice a n c, .int .i64 id] w (NbPost (findN l id) w) := by
  have HL := Lib.hid h.len
  have hs := Lib.hid h
  have k1 := Ex.new w (.cells #[.int .i64 id] 3)
  have B1 := Blk.new w [.int .i64 id] 3
  have k2 := k1.alloc (.cells #[.int .i64 0, .string ⟨#[]⟩, .int .u32 0] 57)
  have B2 := Blk.new (w.alloc (.cells #[.int .i64 id] 3)) [.int .i64 0, .string ⟨#[]⟩, .int .u32 0] 57
  have B1 := B1.nx (Ex.new _ (.cells #[.int .i64 0, .string ⟨#[]⟩, .int .u32 0] 57))
  obtain ⟨w1, hw1⟩ : ∃ w1, w1 = (w.alloc (.cells #[.int .i64 id] 3)).alloc (.cells #[.int .i64 0, .string ⟨#[]⟩, .int .u32 0] 57) := ⟨_, rfl⟩
  obtain ⟨g, hg⟩ : ∃ g, g = w.heap.size + 1 := ⟨_, rfl⟩
  obtain ⟨gi, hgi⟩ : ∃ gi, gi = w.heap.size := ⟨_, rfl⟩
  have B2 : Blk w1 g [.int .i64 0, .string ⟨#[]⟩, .int .u32 0] 57 := by rw [hw1, hg]; simpa using B2
  have B1 : Blk w1 gi [.int .i64 id] 3 := by rw [hw1, hgi]; exact B1
  rw [← hw1] at k2
  have hgn : w.heap.size ≤ g := by omega
  have eg : ∀ args w, (callFunc 121 args).run Tryz.prog w = .ok (.enter 121 args) w := enters_of Tryz.func121 (by kernel_rfl) rfl
  have HW1 := Lib.hid hw1
  have HG := Lib.hid hg
  have HGI := Lib.hid hgi
  have EG := Lib.hid eg
  clear h hw1 hg hgi k1 eg
  go_enter Tryz.func82, Tryz.ntmps82
  go_upto_region 1 with fail
  rw [← HG.out, ← HW1.out, ← HGI.out]
  go_wp2_with fail
  (with_reducible refine (idxf_n 121 #[.pointer (some ⟨gi, 0, none⟩)] (fun x => x.id == id) EG.out _ _ _ _ _ (hs.out.nx k2) hn (find1_p gi id w1 B1)).mono ?_)
  rintro e w3 ⟨rfl, k3⟩
  have B3 := B2.nx k3
  have q0 := B3.cell 0 _ rfl
  have q1 := B3.cell 1 _ rfl
  have q2 := B3.cell 2 _ rfl
  have z0 := B3.free 0
  have z1 := B3.free 1
  have z2 := B3.free 2
  have kk := k2.nx k3
  have KE : Hid (∀ v0 v1 v2, Ex w (((w3.setCell ⟨g, 0, none⟩ v0).setCell ⟨g, 1, none⟩ v1).setCell ⟨g, 2, none⟩ v2)) := Lib.hid (fun v0 v1 v2 => ((kk.setNew (p := ⟨g, 0, none⟩) _ hgn).setNew (p := ⟨g, 1, none⟩) _ hgn).setNew (p := ⟨g, 2, none⟩) _ hgn)
  have hgw := B3.lt
  rcases idxB_find l id with ⟨k, y, hi, hk, hy, hf⟩ | ⟨hi, hf⟩
  · rw [hi]
    have HF := Lib.hid hf
    obtain ⟨x1, o1, y', ha, hx1, hy', hc1⟩ := (hs.out.nx kk).at (j := k) (by rw [← HL.out]; exact hk)
    obtain rfl : y = y' := Option.some.inj (hy.symm.trans hy')
    subst ha
    have e0 : w3.cell? ⟨x1, o1 + k * 3, none⟩ = some (.int .i64 y.id) := hc1 0 _ rfl
    have e1 : w3.cell? ⟨x1, o1 + k * 3 + 1, none⟩ = some (.string y.key) := hc1 1 _ rfl
    have e2 : w3.cell? ⟨x1, o1 + k * 3 + 1 + 1, none⟩ = some (.int .u32 y.word) := by simpa [Nat.add_assoc] using hc1 2 _ rfl
    have hkn : (k : Int) < (n : Int) := by have := HL.out; omega
    have hk0 : ¬ (k : Int) < 0 := by omega
    clear hi hf hy hy' hc1 B1 B2 B3 k2 k3 kk hk
    go_wp2_with fail
    refine bodyPost_ret (v := .tuple #[.agg #[.int .i64 y.id, .string y.key, .int .u32 y.word], .bool true]) (by simp [results, Tryz.results82, go_sem, *]) rfl ⟨by rw [HF.out]; rfl, KE.out _ _ _⟩
  · rw [hi]
    have HF := Lib.hid hf
    clear hi hf B1 B2 B3 k2 k3 kk
    go_wp2_with fail
    refine bodyPost_ret (v := .tuple #[.agg #[.int .i64 0, .string ⟨#[]⟩, .int .u32 0], .bool false]) (by simp [results, Tryz.results82, go_sem, *]) rfl ⟨by rw [HF.out]; rfl, KE.out _ _ _⟩
end Go.Proofs.YtbnbjiddffihoaaGreatDoor

/- Walks over the package word and its reference: bits, common beginnings. -/
namespace Go.Proofs.YtbnbjiddffihoaaGreatDoor
open Go.RowKit

def TabG (w : World) : Prop := ∀ j, j < 32 → w.cell? ⟨1, j, none⟩ = some (.int .u8 (Lib.deBruijn32tab.getD j 0))
theorem TabG.lt {w : World} (h : TabG w) : 1 < w.heap.size := World.block_lt_of_cell? w _ (h 0 (by omega))
theorem TabG.chg {w w' : World} (h : TabG w) {S : Nat → Prop} (k : Chg S w w') (hs : S 1) : TabG w' := fun j hj => k.cellv (h j hj) hs

set_option maxHeartbeats 1000000 in
theorem tz32_core (x k idx : Nat) (w : World) (hx0 : ((x : Int) == 0) = false)
    (key : bits BinOp.and IntKind.u32 (x : Int) (-(x : Int) % 4294967296) * 125613361 % 4294967296 / 134217728 = (idx : Int))
    (hi : idx < 32) (hcell : w.cell? ⟨1, idx, none⟩ = some (.int .u8 k)) (_hk : k < 32) :
    Calls Tryz.prog 160 #[.int .u32 x] w fun e w' => e = .returned (.int .i64 k) ∧ w = w' := by
  go_enter Tryz.func160, Tryz.ntmps160
  go_wp2_with (simp only [key])
  go_ret
  exact ⟨rfl, rfl⟩
theorem tz32_zero (w : World) : Calls Tryz.prog 160 #[.int .u32 0] w fun e w' => e = .returned (.int .i64 32) ∧ w = w' := by
  go_enter Tryz.func160, Tryz.ntmps160
  go_wp2
  go_ret
  exact ⟨rfl, rfl⟩
theorem tz32 (x : Nat) (hx : x < 4294967296) (w : World) (hT : TabG w) :
    Calls Tryz.prog 160 #[.int .u32 x] w fun e w' => e = .returned (.int .i64 (Lib.ctz 32 x)) ∧ w = w' := by
  by_cases hx0 : x = 0
  · subst hx0
    exact tz32_zero w
  · obtain ⟨hlow, hk⟩ := Lib.lowest_bit 32 x hx0 hx
    obtain ⟨hi, htab⟩ := Lib.deBruijn32_at _ hk
    have hcell := hT _ hi
    rw [htab] at hcell
    exact tz32_core x _ _ w (by simp; omega) (tz32_keyn x _ hx hx0 hlow) hi hcell hk

set_option maxHeartbeats 1000000 in
theorem common_p (a b : Nat) (w : World) (ha : a < 4294967296) (hb : b < 4294967296) (hT : TabG w) :
    Calls Tryz.prog 156 #[.int .u32 a, .int .u32 b] w fun e w' => e = .returned (.int .i64 (commonN a b)) ∧ w = w' := by
  have hx := bits_xor_u32n a b ha hb
  have HT := Lib.hid hT
  clear hT
  by_cases h16 : Lib.ctz 32 (a ^^^ b) ≤ 16
  · have HC : Hid (commonN a b = Lib.ctz 32 (a ^^^ b)) := Nat.min_eq_left h16
    generalize hk : Lib.ctz 32 (a ^^^ b) = k at *
    have HK := Lib.hid hk
    clear hk
    go_enter Tryz.func156, Tryz.ntmps156
    go_wp2_with fail
    refine (tz32 _ (xor_lt ha hb) _ HT.out).mono ?_
    rintro e w1 ⟨rfl, rfl⟩
    rw [HK.out]
    go_wp2_with fail
    go_ret
    exact ⟨by rw [HC.out]; first | rfl | exact congrArg (fun z => Ending.returned (Value.int .i64 z)) (by omega : min (k : Int) 16 = (k : Int)), rfl⟩
  · have HC : Hid (commonN a b = 16) := Nat.min_eq_right (by omega)
    generalize hk : Lib.ctz 32 (a ^^^ b) = k at *
    have HK := Lib.hid hk
    clear hk
    go_enter Tryz.func156, Tryz.ntmps156
    go_wp2_with fail
    refine (tz32 _ (xor_lt ha hb) _ HT.out).mono ?_
    rintro e w1 ⟨rfl, rfl⟩
    rw [HK.out]
    go_wp2_with fail
    go_ret
    exact ⟨by rw [HC.out]; first | rfl | exact congrArg (fun z => Ending.returned (Value.int .i64 z)) (by omega : min (k : Int) 16 = ((16 : Nat) : Int)), rfl⟩

set_option maxHeartbeats 1000000 in
theorem same_p (a b : Nat) (h : Int) (w : World) (ha : a < 4294967296) (hb : b < 4294967296) (hT : TabG w) :
    Calls Tryz.prog 139 #[.int .u32 a, .int .u32 b, .int .i64 h] w fun e w' => e = .returned (.bool (sameN a b h)) ∧ w = w' := by
  have HT := Lib.hid hT
  clear hT
  go_enter Tryz.func139, Tryz.ntmps139
  go_wp2_with fail
  refine (common_p _ _ _ ha hb HT.out).mono ?_
  rintro e w1 ⟨rfl, rfl⟩
  go_wp2_with fail
  go_ret
  exact ⟨rfl, rfl⟩
theorem wvalid_p (a : Nat) (w : World) : Calls Tryz.prog 109 #[.int .u32 a] w fun e w' => e = .returned (.bool (validN a)) ∧ w = w' := by
  go_enter Tryz.func109, Tryz.ntmps109
  go_wp2
  go_ret
  exact ⟨rfl, rfl⟩
end Go.Proofs.YtbnbjiddffihoaaGreatDoor

/- Check of the package roster. -/
namespace Go.Proofs.YtbnbjiddffihoaaGreatDoor
open Go.RowKit

theorem vkey_p (s : ByteArray) (w : World) : Calls Tryz.prog 108 #[.string s] w fun e w' => e = .returned (.bool (decide ((s.size : Int) ≤ 64))) ∧ w = w' := by
  go_enter Tryz.func108, Tryz.ntmps108
  go_wp2
  go_ret
  exact ⟨rfl, rfl⟩
theorem eqN_symm (x y : Nd) : eqN x y = eqN y x := by
  unfold eqN
  rw [Bool.eq_iff_iff]
  simp only [Bool.or_eq_true, beq_iff_eq]
  exact ⟨fun h => h.imp Eq.symm Eq.symm, fun h => h.imp Eq.symm Eq.symm⟩
set_option maxRecDepth 100000 in
theorem check1_p (gx : Nat) (x : Nd) (w : World) (hx : Blk w gx [.int .i64 x.id, .string x.key, .int .u32 x.word] 57) : PredG 111 #[.pointer (some ⟨gx, 0, none⟩)] (fun y => eqN y x) w := by
  intro y w' kk
  have B := hx.nx kk
  have q0 := B.cell 0 _ rfl
  have q1 := B.cell 1 _ rfl
  have hg := B.lt
  have hne : ¬ gx = w'.heap.size := by omega
  unfold Nd.val
  clear hx kk B
  by_cases h1 : y.id = x.id
  · have d1 : (y.id == x.id) = true := by simpa using h1
    have HE : Hid (eqN y x = true) := Lib.hid (by unfold eqN; rw [d1]; rfl)
    clear h1
    go_enter Tryz.func111, Tryz.ntmps111
    go_wp2
    go_ret
    exact ⟨by rw [HE.out]; rfl, (Ex.refl _).alloc _⟩
  · have d1 : (y.id == x.id) = false := by simpa using h1
    have HE : Hid (eqN y x = (y.key.toList == x.key.toList)) := Lib.hid (by unfold eqN; rw [d1]; rfl)
    clear h1
    go_enter Tryz.func111, Tryz.ntmps111
    go_wp2
    go_ret
    exact ⟨by rw [HE.out]; rfl, (Ex.refl _).alloc _⟩
def NdRel (n : Nat) (l : List Nd) (w : World) (i : Value) (wr : World) : Prop :=
  ∃ k : Nat, k ≤ n ∧ i = .int .i64 k ∧ Ex w wr ∧ ∀ i' x, i' < k → l[i']? = some x → (l.take i').any (fun y => eqN y x) = false

set_option maxRecDepth 100000 in
set_option maxHeartbeats 4000000 in
theorem check_p (a : Option Addr) (n c : Nat) (l : List Nd) (w : World) (h : Sl 3 encN w a n l) (hn : n ≤ 1000000) (hc : n ≤ c) (hm : c ≤ maxLen) :
    Calls Tryz.prog 72 #[.slice a n c] w fun e w' => e = .returned (.int .i64 (checkN l)) ∧ Ex w w' := by
  have hlen := h.len
  unfold maxLen at hm
  have eg : ∀ args w, (callFunc 111 args).run Tryz.prog w = .ok (.enter 111 args) w := enters_of Tryz.func111 (by kernel_rfl) rfl
  have EG := Lib.hid eg
  clear eg
  go_enter Tryz.func72, Tryz.ntmps72
  by_cases h64 : 64 < n
  · have HC : Hid (checkN l = 3) := Lib.hid (by unfold checkN; rw [if_pos (by omega)])
    clear h hlen
    go_wp2_with fail
    go_ret
    exact ⟨by rw [HC.out]; rfl, Ex.refl _⟩
  have HL := Lib.hid hlen
  clear hlen
  go_wp2_with fail
  go_loopw [12] (fun i wr => N1Rel n l w i wr) (fun i _ => n - (intOf i).toNat)
  case atStart => exact ⟨0, by omega, rfl, Ex.refl _, by intro _ _ h; omega⟩
  case round =>
    obtain ⟨k, hk, rfl, kw, hgood⟩ := hrel
    have HG := Lib.hid hgood
    clear hgood
    obtain ⟨wo, rfl⟩ : ∃ wo : World, wo = wr := ⟨_, rfl⟩
    by_cases hlt : k < n
    · obtain ⟨x1, o1, y, rfl, hx1, hy, hc1⟩ := (h.nx kw).at hlt
      have e0 : wo.cell? ⟨x1, o1 + k * 3, none⟩ = some (.int .i64 y.id) := hc1 0 _ rfl
      have e1 : wo.cell? ⟨x1, o1 + k * 3 + 1, none⟩ = some (.string y.key) := hc1 1 _ rfl
      have e2 : wo.cell? ⟨x1, o1 + k * 3 + 1 + 1, none⟩ = some (.int .u32 y.word) := by simpa [Nat.add_assoc] using hc1 2 _ rfl
      have e2' : wo.cell? ⟨x1, o1 + k * 3 + 2, none⟩ = some (.int .u32 y.word) := hc1 2 _ rfl
      have HY := Lib.hid hy
      have BAD : badN y = true → checkN l = 1 := fun hb => by
        unfold checkN
        rw [if_neg (by rw [HL.out]; exact h64), if_pos (List.any_eq_true.2 ⟨y, List.mem_of_getElem? HY.out, hb⟩)]
      have KW := Lib.hid (kw.alloc (.cells #[.int .i64 y.id, .string y.key, .int .u32 y.word] 57))
      clear hc1 hy h kw
      by_cases b1 : y.id < 1
      · have HB := Lib.hid (BAD (by unfold badN; simp [b1]))
        clear BAD
        go_wp2_with fail
        go_ret
        exact ⟨by rw [HB.out]; rfl, KW.out⟩
      by_cases b2 : 2147483647 < y.id
      · have HB := Lib.hid (BAD (by unfold badN; simp [b2]))
        clear BAD
        go_wp2_with fail
        go_ret
        exact ⟨by rw [HB.out]; rfl, KW.out⟩
      have BAD := Lib.hid BAD
      go_wp2_with fail
      refine (vkey_p _ _).mono ?_
      rintro e w2 ⟨rfl, rfl⟩
      by_cases b3 : (y.key.size : Int) ≤ 64
      · have d3 : decide ((y.key.size : Int) ≤ 64) = true := by simpa using b3
        rw [d3]
        clear d3
        go_wp2_with fail
        refine (wvalid_p _ _).mono ?_
        rintro e w2 ⟨rfl, rfl⟩
        cases b4 : validN y.word with
        | true =>
          have BG : Hid (badN y = false) := Lib.hid (by unfold badN; simp [b1, b2, b3, b4])
          clear BAD b4 b3
          go_wp2_with fail
          refine ⟨⟨k + 1, by omega, by go_num, KW.out, fun k' y' hk' hy' => ?_⟩, by simp [intOf]; omega⟩
          rcases Nat.lt_or_ge k' k with h | h
          · exact HG.out k' y' h hy'
          · obtain rfl : k' = k := by omega
            rw [Option.some.inj (hy'.symm.trans HY.out)]
            exact BG.out
        | false =>
          have HB := Lib.hid (BAD.out (by unfold badN; simp [b4]))
          clear BAD b4
          go_wp2_with fail
          go_ret
          exact ⟨by rw [HB.out]; rfl, KW.out⟩
      · have d3 : decide ((y.key.size : Int) ≤ 64) = false := by simpa using b3
        have HB := Lib.hid (BAD.out (by unfold badN; simp [b3]))
        rw [d3]
        clear d3 BAD b3
        go_wp2_with fail
        go_ret
        exact ⟨by rw [HB.out]; rfl, KW.out⟩
    · obtain rfl : k = n := by omega
      have HNB : Hid (l.any badN = false) := Lib.hid (by
        rw [List.any_eq_false]
        intro y hy
        obtain ⟨j, hj, he⟩ := List.mem_iff_getElem.1 hy
        rw [HG.out j y (by rw [← HL.out]; exact hj) (by rw [← he]; simp)]
        simp)
      clear HG hlt hk
      obtain ⟨w1, rfl⟩ : ∃ w1 : World, w1 = wo := ⟨_, rfl⟩
      have hs := Lib.hid h
      clear h
      go_wp2_with fail
      go_loopw [39] (fun i wr => NdRel k l w i wr) (fun i _ => k - (intOf i).toNat)
      case atStart => exact ⟨0, by omega, rfl, kw, by intro _ _ h; omega⟩
      case round =>
        clear kw
        obtain ⟨m, hm2, rfl, kw, hgood⟩ := hrel
        have HG := Lib.hid hgood
        clear hgood
        obtain ⟨wo, rfl⟩ : ∃ wo : World, wo = wr := ⟨_, rfl⟩
        by_cases hlt : m < k
        · obtain ⟨x1, o1, x, rfl, hx1, hx, hc1⟩ := (hs.out.nx kw).at hlt
          have e0 : wo.cell? ⟨x1, o1 + m * 3, none⟩ = some (.int .i64 x.id) := hc1 0 _ rfl
          have e1 : wo.cell? ⟨x1, o1 + m * 3 + 1, none⟩ = some (.string x.key) := hc1 1 _ rfl
          have e2 : wo.cell? ⟨x1, o1 + m * 3 + 1 + 1, none⟩ = some (.int .u32 x.word) := by simpa [Nat.add_assoc] using hc1 2 _ rfl
          have e2' : wo.cell? ⟨x1, o1 + m * 3 + 2, none⟩ = some (.int .u32 x.word) := hc1 2 _ rfl
          have HX := Lib.hid hx
          have k2 := Ex.new wo (.cells #[.int .i64 x.id, .string x.key, .int .u32 x.word] 57)
          have B2 := Blk.new wo [.int .i64 x.id, .string x.key, .int .u32 x.word] 57
          obtain ⟨w2, hw2⟩ : ∃ w2, w2 = wo.alloc (.cells #[.int .i64 x.id, .string x.key, .int .u32 x.word] 57) := ⟨_, rfl⟩
          obtain ⟨g, hg⟩ : ∃ g, g = wo.heap.size := ⟨_, rfl⟩
          have B2 : Blk w2 g [.int .i64 x.id, .string x.key, .int .u32 x.word] 57 := by rw [hw2, hg]; exact B2
          rw [← hw2] at k2
          have KW := Lib.hid (kw.nx k2)
          have HW2 := Lib.hid hw2
          have HGG := Lib.hid hg
          have hmc : (m : Int) ≤ (c : Int) := by omega
          have S2 := (hs.out.nx (kw.nx k2)).take (m := m) (by omega)
          have PG := check1_p g x w2 B2
          clear hc1 hx hx1 kw k2 hw2 hg B2
          go_upto_region 12 with fail
          rw [← HGG.out, ← HW2.out]
          go_wp2_with fail
          (with_reducible refine (contf_n 111 #[.pointer (some ⟨g, 0, none⟩)] (fun y => eqN y x) EG.out _ _ _ _ _ S2 (by omega) PG).mono ?_)
          rintro e w3 ⟨rfl, k3⟩
          have K3 := Lib.hid (KW.out.nx k3)
          clear S2 PG k3 e0 e1 e2 e2'
          cases hb : (l.take m).any (fun y => eqN y x) with
          | true =>
            have HC : Hid (checkN l = 5) := Lib.hid (by
              unfold checkN
              rw [if_neg (by rw [HL.out]; exact h64), HNB.out, if_neg (by simp), if_pos]
              obtain ⟨y, hy, he⟩ := List.any_eq_true.1 hb
              obtain ⟨q, hq⟩ := List.mem_iff_getElem?.1 hy
              rw [List.getElem?_take] at hq
              split at hq
              · rename_i hqm
                exact (dupN_iff l).2 ⟨m, q, x, y, hqm, HX.out, hq, by rw [eqN_symm]; exact he⟩
              · cases hq)
            clear hb
            go_wp2_with fail
            go_ret
            exact ⟨by rw [HC.out]; rfl, K3.out⟩
          | false =>
            have HB := Lib.hid hb
            clear hb
            go_wp2_with fail
            refine ⟨⟨m + 1, by omega, by go_num, K3.out, fun i' x' hi' hx' => ?_⟩, by simp [intOf]; omega⟩
            rcases Nat.lt_or_ge i' m with h | h
            · exact HG.out i' x' h hx'
            · obtain rfl : i' = m := by omega
              rw [Option.some.inj (hx'.symm.trans HX.out)]
              exact HB.out
        · obtain rfl : m = k := by omega
          have HC : Hid (checkN l = 0) := Lib.hid (by
            unfold checkN
            rw [if_neg (by rw [HL.out]; exact h64), HNB.out, if_neg (by simp), if_neg]
            intro hd
            obtain ⟨i, q, x, y, hq, hx, hy, he⟩ := (dupN_iff l).1 hd
            have hi := HG.out i x (by have := (List.getElem?_eq_some_iff.1 hx).1; have := HL.out; omega) hx
            rw [List.any_eq_false] at hi
            refine hi y ?_ (by rw [eqN_symm]; exact he)
            exact List.mem_iff_getElem?.2 ⟨q, by rw [List.getElem?_take, if_pos hq]; exact hy⟩)
          have KW := Lib.hid kw
          clear HG hlt hm2 HNB kw
          go_wp2_with fail
          go_ret
          exact ⟨by rw [HC.out]; rfl, KW.out⟩
end Go.Proofs.YtbnbjiddffihoaaGreatDoor

/- When two lists of nodes are equal. -/
namespace Go.Proofs.YtbnbjiddffihoaaGreatDoor
open Go.RowKit

end Go.Proofs.YtbnbjiddffihoaaGreatDoor

/- Lists of lists of nodes. -/
namespace Go.Proofs.YtbnbjiddffihoaaGreatDoor
open Go.RowKit

theorem TabG.nx {w w' : World} (h : TabG w) (k : Ex w w') : TabG w' := h.chg k h.lt
end Go.Proofs.YtbnbjiddffihoaaGreatDoor

/- slices.IndexFunc over a list of lists of nodes, with the closure of Classes. -/
namespace Go.Proofs.YtbnbjiddffihoaaGreatDoor
open Go.RowKit

end Go.Proofs.YtbnbjiddffihoaaGreatDoor

/- Classes of the package word. -/
namespace Go.Proofs.YtbnbjiddffihoaaGreatDoor
open Go.RowKit

end Go.Proofs.YtbnbjiddffihoaaGreatDoor

/- The plain law of WordSplits: what the classes of two levels have to do with each other. -/
namespace Go.Proofs.YtbnbjiddffihoaaGreatDoor
open Go.RowKit

theorem sameN_refl (a : Nat) {h : Int} (hh : h ≤ 16) : sameN a a h = true := by unfold sameN; rw [common_self]; simpa using hh
theorem sameN_symm {a b : Nat} {h : Int} (hs : sameN a b h = true) : sameN b a h = true := by unfold sameN at *; rw [commonN_comm]; exact hs
theorem sameN_trans {a b c : Nat} {h : Int} (ha : a < 4294967296) (hb : b < 4294967296) (hc : c < 4294967296) (h1 : sameN a b h = true) (h2 : sameN b c h = true) : sameN a c h = true := by
  unfold sameN at *
  have := common_min ha hb hc
  simp at *
  omega
theorem stepC_cases (h : Int) (C : List (List Nd)) (x : Nd) :
    ((∀ c ∈ C, sameN (headW c) x.word h = false) ∧ stepC h C x = C ++ [[x]]) ∨
    ∃ K c, C[K]? = some c ∧ sameN (headW c) x.word h = true ∧ stepC h C x = C.set K (c ++ [x]) := by
  have hle := idxC_le C x.word h
  by_cases hK : idxC C x.word h = C.length
  · refine .inl ⟨fun c hc => ?_, ?_⟩
    · have := (List.findIdx_eq_length.1 hK) c hc
      simpa using this
    · unfold stepC padC
      rw [hK, if_pos rfl, List.getElem?_append_right (Nat.le_refl _)]
      simp
  · refine .inr ⟨idxC C x.word h, C[idxC C x.word h]'(by omega), by simp, ?_, ?_⟩
    · exact List.findIdx_getElem (p := fun c => sameN (headW c) x.word h) (w := by unfold idxC at *; omega)
    · unfold stepC padC
      rw [if_neg hK]
      congr 2
      rw [List.getElem?_eq_getElem (by omega)]
      rfl

structure Cls (h : Int) (l : List Nd) (C : List (List Nd)) : Prop where
  all : ∀ y ∈ l, ∃ c ∈ C, y ∈ c
  mem : ∀ c ∈ C, 0 < c.length ∧ ∀ y ∈ c, y ∈ l ∧ sameN (headW c) y.word h = true
  heads : ∀ (i j : Nat) ci cj, C[i]? = some ci → C[j]? = some cj → sameN (headW ci) (headW cj) h = true → i = j
theorem headW_mem {c : List Nd} (h : 0 < c.length) : ∃ y ∈ c, headW c = y.word := by
  cases c with
  | nil => simp at h
  | cons y r => exact ⟨y, by simp, rfl⟩
theorem headW_snoc {c : List Nd} (x : Nd) (h : 0 < c.length) : headW (c ++ [x]) = headW c := by
  cases c with
  | nil => simp at h
  | cons y r => rfl

theorem Cls.step {h : Int} {l : List Nd} {C : List (List Nd)} {x : Nd} (hh : h ≤ 16) (H : Cls h l C) (hl : ∀ y ∈ l, y.word < 4294967296) (hx : x.word < 4294967296) : Cls h (l ++ [x]) (stepC h C x) := by
  have hw : ∀ c ∈ C, headW c < 4294967296 := fun c hc => by
    obtain ⟨y, hy, he⟩ := headW_mem (H.mem c hc).1
    rw [he]; exact hl y ((H.mem c hc).2 y hy).1
  rcases stepC_cases h C x with ⟨hno, he⟩ | ⟨K, c, hc, hs, he⟩
  · rw [he]
    refine ⟨fun y hy => ?_, fun d hd => ?_, fun i j ci cj hi hj hs => ?_⟩
    · rcases List.mem_append.1 hy with hy | hy
      · obtain ⟨c, hc, hyc⟩ := H.all y hy
        exact ⟨c, List.mem_append_left _ hc, hyc⟩
      · exact ⟨[x], by simp, hy⟩
    · rcases List.mem_append.1 hd with hd | hd
      · exact ⟨(H.mem d hd).1, fun y hy => ⟨List.mem_append_left _ ((H.mem d hd).2 y hy).1, ((H.mem d hd).2 y hy).2⟩⟩
      · rw [List.mem_singleton.1 hd]
        refine ⟨by simp, fun y hy => ?_⟩
        rw [List.mem_singleton.1 hy]
        exact ⟨by simp, sameN_refl _ hh⟩
    · have last : ∀ (i : Nat) ci, (C ++ [[x]])[i]? = some ci → (i < C.length ∧ C[i]? = some ci) ∨ (i = C.length ∧ ci = [x]) := by
        intro i ci hi
        rcases Nat.lt_or_ge i C.length with h | h
        · rw [List.getElem?_append_left h] at hi; exact .inl ⟨h, hi⟩
        · have := (List.getElem?_eq_some_iff.1 hi).1
          simp at this
          obtain rfl : i = C.length := by omega
          simp at hi
          exact .inr ⟨rfl, hi.symm⟩
      rcases last i ci hi with ⟨h1, h2⟩ | ⟨h1, h2⟩ <;> rcases last j cj hj with ⟨h3, h4⟩ | ⟨h3, h4⟩
      · exact H.heads i j ci cj h2 h4 hs
      · rw [h4] at hs
        have := hno ci (List.mem_of_getElem? h2)
        rw [show headW [x] = x.word from rfl, this] at hs
        cases hs
      · rw [h2] at hs
        have := hno cj (List.mem_of_getElem? h4)
        have hs := sameN_symm hs
        rw [show headW [x] = x.word from rfl, this] at hs
        cases hs
      · omega
  · rw [he]
    have hcm := H.mem c (List.mem_of_getElem? hc)
    have hKl := (List.getElem?_eq_some_iff.1 hc).1
    refine ⟨fun y hy => ?_, fun d hd => ?_, fun i j ci cj hi hj hs => ?_⟩
    · rcases List.mem_append.1 hy with hy | hy
      · obtain ⟨d, hd, hyd⟩ := H.all y hy
        obtain ⟨j, hj⟩ := List.mem_iff_getElem?.1 hd
        by_cases hjK : j = K
        · subst hjK
          obtain rfl : c = d := Option.some.inj (hc.symm.trans hj)
          exact ⟨c ++ [x], List.mem_iff_getElem?.2 ⟨j, by rw [List.getElem?_set_self hKl]⟩, List.mem_append_left _ hyd⟩
        · exact ⟨d, List.mem_iff_getElem?.2 ⟨j, by rw [List.getElem?_set_ne (by omega)]; exact hj⟩, hyd⟩
      · exact ⟨c ++ [x], List.mem_iff_getElem?.2 ⟨K, by rw [List.getElem?_set_self hKl]⟩, by rw [List.mem_singleton.1 hy]; simp⟩
    · rcases List.mem_or_eq_of_mem_set hd with hd | rfl
      · exact ⟨(H.mem d hd).1, fun y hy => ⟨List.mem_append_left _ ((H.mem d hd).2 y hy).1, ((H.mem d hd).2 y hy).2⟩⟩
      · refine ⟨by simp, fun y hy => ?_⟩
        rw [headW_snoc x hcm.1]
        rcases List.mem_append.1 hy with hy | hy
        · exact ⟨List.mem_append_left _ (hcm.2 y hy).1, (hcm.2 y hy).2⟩
        · rw [List.mem_singleton.1 hy]; exact ⟨by simp, hs⟩
    · have hd : ∀ (i : Nat) ci, (C.set K (c ++ [x]))[i]? = some ci → ∃ di, C[i]? = some di ∧ headW ci = headW di := by
        intro i ci hi
        by_cases hiK : i = K
        · subst hiK
          rw [List.getElem?_set_self hKl] at hi
          cases hi
          exact ⟨c, hc, headW_snoc x hcm.1⟩
        · rw [List.getElem?_set_ne (by omega)] at hi
          exact ⟨ci, hi, rfl⟩
      obtain ⟨di, h1, h2⟩ := hd i ci hi
      obtain ⟨dj, h3, h4⟩ := hd j cj hj
      rw [h2, h4] at hs
      exact H.heads i j di dj h1 h3 hs

end Go.Proofs.YtbnbjiddffihoaaGreatDoor

/- How many classes there are does not depend on the order of the nodes. -/
namespace Go.Proofs.YtbnbjiddffihoaaGreatDoor
open Go.RowKit

end Go.Proofs.YtbnbjiddffihoaaGreatDoor

/- Through and Neighbours of the reference. -/
namespace Go.Proofs.YtbnbjiddffihoaaGreatDoor
open Go.RowKit

def idxI (g : List Nd) (id : Int) : Nat := g.findIdx fun x => x.id == id
theorem idxI_of {g : List Nd} {id : Int} {k : Nat} {y : Nd} (hy : g[k]? = some y) (he : y.id = id) (hno : ∀ j z, j < k → g[j]? = some z → z.id ≠ id) : idxI g id = k := by
  have hk := (List.getElem?_eq_some_iff.1 hy).1
  have hv := (List.getElem?_eq_some_iff.1 hy).2
  rw [idxI, List.findIdx_eq hk]
  refine ⟨by rw [hv]; simpa using he, fun j hj => ?_⟩
  have := hno j _ hj (List.getElem?_eq_getElem (by omega))
  simpa using this
theorem idxI_none {g : List Nd} {id : Int} (hno : ∀ j z, j < g.length → g[j]? = some z → z.id ≠ id) : idxI g id = g.length := by
  rw [idxI, List.findIdx_eq_length]
  intro x hx
  obtain ⟨j, hj, he⟩ := List.mem_iff_getElem.1 hx
  have := hno j x hj (by rw [← he]; simp)
  simpa using this
def thrG (l : List Nd) (id : Int) (h : Int) : List Nd := groupN (sortN l) h (findN l id).1.word
def throughN (l : List Nd) (id : Int) (h : Int) : List Nd × Nat × Bool :=
  if (findN l id).2 = true ∧ (checkN l == 0) = true ∧ lvlN h = true ∧ idxI (thrG l id h) id < (thrG l id h).length then (thrG l id h, idxI (thrG l id h) id, true) else ([], 0, false)
def ThPost (r : List Nd × Nat × Bool) (w : World) (e : Ending) (w' : World) : Prop :=
  ∃ (a : Option Addr) (cp : Nat), e = .returned (.tuple #[.slice a r.1.length cp, .int .i64 r.2.1, .bool r.2.2]) ∧ Sl 3 encN w' a r.1.length r.1 ∧ Ex w w'
def ThPostF (r : List Nd × Nat × Bool) (w : World) (e : Ending) (w' : World) : Prop :=
  ∃ (a : Option Addr) (cp : Nat), e = .returned (.tuple #[.slice a r.1.length cp, .int .i64 r.2.1, .bool r.2.2]) ∧ Slf 3 encN w w' a r.1.length r.1 ∧ Ex w w'
theorem thPost_none {l : List Nd} {id h : Int} {w w' : World} (hne : throughN l id h = ([], 0, false)) (k : Ex w w') : ThPostF (throughN l id h) w (.returned (.tuple #[.slice none 0 0, .int .i64 0, .bool false])) w' := by
  rw [hne]
  exact ⟨none, 0, rfl, Slf.nil _ _ _ _ _, k⟩
def TgRel (g : List Nd) (id : Int) (w : World) (i : Value) (wr : World) : Prop :=
  ∃ k : Nat, k ≤ g.length ∧ i = .int .i64 k ∧ Ex w wr ∧ ∀ j z, j < k → g[j]? = some z → z.id ≠ id
theorem findN_word {l : List Nd} (hw : ∀ x ∈ l, x.word < 4294967296) (id : Int) : (findN l id).1.word < 4294967296 := by
  unfold findN
  split
  · rename_i x hx
    exact hw x (List.mem_of_find?_eq_some hx)
  · show 0 < _; omega

set_option maxRecDepth 100000 in
set_option maxHeartbeats 2000000 in
theorem through_f (a : Option Addr) (n cp : Nat) (l : List Nd) (id h : Int) (w : World) (hs : Sl 3 encN w a n l) (hn : n ≤ 1000) (hw : ∀ x ∈ l, x.word < 4294967296) :
    Calls Tryz.prog 119 #[.slice a n cp, .int .i64 id, .int .i64 h] w (ThPostF (throughN l id h) w) := by
  have HW := Lib.hid (sort_word hw)
  have HX := findN_word hw id
  have HL := Lib.hid hs.len
  clear hw
  go_enter Tryz.func119, Tryz.ntmps119
  go_wp2_with fail
  (with_reducible refine (find_r _ _ _ _ _ _ hs (by omega)).mono ?_)
  rintro e w1 ⟨rfl, k1⟩
  have S1 := hs.nx k1
  obtain ⟨F, hF⟩ : ∃ F, F = findN l id := ⟨_, rfl⟩
  have HF := Lib.hid hF
  rw [← hF] at HX ⊢
  obtain ⟨⟨xi, xk, xw⟩, ok⟩ := F
  have k2 := Ex.new w1 (.cells #[.int .i64 xi, .string xk, .int .u32 xw] 57)
  have B2 := Blk.new w1 [.int .i64 xi, .string xk, .int .u32 xw] 57
  obtain ⟨w2, hw2⟩ : ∃ w2, w2 = w1.alloc (.cells #[.int .i64 xi, .string xk, .int .u32 xw] 57) := ⟨_, rfl⟩
  obtain ⟨g2, hg2⟩ : ∃ g2, g2 = w1.heap.size := ⟨_, rfl⟩
  have B2 : Blk w2 g2 [.int .i64 xi, .string xk, .int .u32 xw] 57 := by rw [hw2, hg2]; exact B2
  rw [← hw2] at k2
  have HW2 := Lib.hid hw2
  have HG2 := Lib.hid hg2
  replace S1 := S1.nx k2
  replace k1 := k1.nx k2
  clear hF hw2 hg2 k2 hs
  simp only [Nd.val]
  go_upto_region 2 with fail
  rw [← HG2.out, ← HW2.out]
  cases ok with
  | false =>
    have HT : Hid (throughN l id h = ([], 0, false)) := Lib.hid (by unfold throughN; rw [if_neg]; rintro ⟨h1, _⟩; rw [← HF.out] at h1; cases h1)
    clear S1 B2
    go_wp2_with fail
    refine bodyPost_ret (v := .tuple #[.slice none 0 0, .int .i64 0, .bool false]) (by simp [results, Tryz.results119, go_sem, *]) rfl (thPost_none HT.out k1)
  | true =>
    go_wp2_with fail
    (with_reducible refine (is_r _ _ _ _ _ S1 (by omega)).mono ?_)
    rintro e w3 ⟨rfl, k3⟩
    replace S1 := S1.nx k3
    replace k1 := k1.nx k3
    replace B2 := B2.nx k3
    clear k3
    cases hc : (checkN l == 0) with
    | false =>
      have HT : Hid (throughN l id h = ([], 0, false)) := Lib.hid (by unfold throughN; rw [if_neg]; rintro ⟨_, h1, _⟩; rw [hc] at h1; cases h1)
      clear S1 B2 hc
      go_wp2_with fail
      refine bodyPost_ret (v := .tuple #[.slice none 0 0, .int .i64 0, .bool false]) (by simp [results, Tryz.results119, go_sem, *]) rfl (thPost_none HT.out k1)
    | true =>
      have HC := Lib.hid hc
      clear hc
      go_wp2_with fail
      refine (level_r h _).mono ?_
      rintro e w4 ⟨rfl, rfl⟩
      cases hl : lvlN h with
      | false =>
        have HT : Hid (throughN l id h = ([], 0, false)) := Lib.hid (by unfold throughN; rw [if_neg]; rintro ⟨_, _, h1, _⟩; rw [hl] at h1; cases h1)
        clear S1 B2 hl
        go_wp2_with fail
        refine bodyPost_ret (v := .tuple #[.slice none 0 0, .int .i64 0, .bool false]) (by simp [results, Tryz.results119, go_sem, *]) rfl (thPost_none HT.out k1)
      | true =>
        have HLV := Lib.hid hl
        clear hl
        go_wp2_with fail
        replace B2 := B2.nx (Ex.refl w3).drew
        refine wp_region_held_drew (S := Ex w3.drew) (by kernel_rfl) (Ex.refl _) (fun hHeld => ?_)
        refine wpAnyH_take (i := 0) (oi := ⟨some 31, .move (.tmp 0), 23, "ref.go:36", #[], none⟩) (v := ?_) rfl (by kernel_rfl) (by kernel_rfl) (by kernel_rfl) (fun _ _ _ h => h) (Or.inl ⟨by rfl, ?hyr1x0⟩) (by assumption) ?restr1x0
        case hyr1x0 => intro wq hSw; (go_simp); (try with_reducible rfl)
        try simp only [Act.put, List.setIfInBounds_toArray, List.set_cons_zero, List.set_cons_succ]
        refine wpAnyH_take (i := 2) (oi := ⟨some 33, .move (.tmp 2), 3, "ref.go:36", #[], none⟩) (v := ?_) rfl (by kernel_rfl) (by kernel_rfl) (by kernel_rfl) (fun _ _ _ h => h) (Or.inl ⟨by rfl, ?hyr1x2⟩) (by assumption) ?restr1x2
        case hyr1x2 => intro wq hSw; (go_simp); (try with_reducible rfl)
        try simp only [Act.put, List.setIfInBounds_toArray, List.set_cons_zero, List.set_cons_succ]
        refine wpAnyH_take (i := 3) (oi := ⟨some 34, .fieldAddr 57 (.tmp 9) 2, 0, "ref.go:36", #[], none⟩) (v := ?_) rfl (by kernel_rfl) (by kernel_rfl) (by kernel_rfl) (fun _ _ _ h => h) (Or.inl ⟨by rfl, ?hyr1x3⟩) (by assumption) ?restr1x3
        case hyr1x3 => intro wq hSw; (go_simp); (try with_reducible rfl)
        try simp only [Act.put, List.setIfInBounds_toArray, List.set_cons_zero, List.set_cons_succ]
        refine wpAnyH_take (i := 4) (oi := ⟨some 35, .load 54 (.tmp 34), 54, "ref.go:36", #[⟨3, .data⟩], none⟩) (v := ?_) rfl (by kernel_rfl) (by kernel_rfl) (by kernel_rfl) (fun _ _ _ h => h) (Or.inl ⟨by rfl, ?hyr1x4⟩) (by assumption) ?restr1x4
        case hyr1x4 => intro wq hSw; (have cq := (B2.nx hSw).cell 2 _ rfl; go_simp); (try with_reducible rfl)
        try simp only [Act.put, List.setIfInBounds_toArray, List.set_cons_zero, List.set_cons_succ]
        refine wpAnyH_ready (rs := [1]) (by kernel_rfl) (by simp) ?_
        refine AllReadyH.cons (o := ⟨some 32, .call { callee := .value (.func 77), args := #[.tmp 31], argTypes := #[23] }, 23, "ref.go:36", #[⟨0, .data⟩], none⟩) rfl (fun K hK => ?_) AllReadyH.nil
        go_simp
        (with_reducible refine (sort_r _ _ _ _ _ (S1.nx (Ex.refl w3).drew) hn).mono ?_)
        rintro e w5 ⟨a5, n5, c5, rfl, r5, k5⟩
        have r5 : Slf 3 encN w3.drew w5 a5 n5 _ := r5
        replace k5 : Ex w3.drew w5 := k5
        replace B2 := B2.nx k5
        have hn5 : n5 ≤ 1000 := by have := r5.len; have := sortN_length l; have := HL.out; omega
        refine hK.out _ _ k5 (fun _ => ?_)
        clear hK K
        try simp only [Act.put, List.setIfInBounds_toArray, List.set_cons_zero, List.set_cons_succ]
        refine wpAnyH_switch (S' := Ex w5) (fun _ hSw => Ex.nx k5 hSw) ?_
        clear hHeld
        have hHeld := Ex.refl w5
        refine wpAnyH_ready (rs := [5]) (by kernel_rfl) (by simp) ?_
        refine AllReadyH.cons (o := ⟨some 36, .call { callee := .value (.func 140), args := #[.tmp 32, .tmp 33, .tmp 35], argTypes := #[23, 3, 54] }, 23, "ref.go:36", #[⟨1, .data⟩, ⟨2, .data⟩, ⟨4, .data⟩, ⟨1, .chain⟩], none⟩) rfl (fun K hK => ?_) AllReadyH.nil
        go_simp
        refine (group_r _ _ _ _ h xw _ r5.sl (fun _ hk => hk) hn5 HW.out HX).mono ?_
        rintro e w6 ⟨a6, n6, c6, rfl, r6, k6⟩
        have r6 : Slf 3 encN w5 w6 a6 n6 _ := r6
        replace k6 : Ex w5 w6 := k6
        refine hK.out _ _ k6 (fun _ => ?_)
        clear hK K
        try simp only [Act.put, List.setIfInBounds_toArray, List.set_cons_zero, List.set_cons_succ]
        refine wpAnyH_switch (S' := Ex w6) (fun _ hSw => Ex.nx k6 hSw) ?_
        clear hHeld
        have hHeld := Ex.refl w6
        refine wpAnyH_take (i := 6) (oi := ⟨some 11, .assign (.tmp 36), 23, "ref.go:36", #[⟨5, .data⟩, ⟨5, .chain⟩, ⟨0, .phase⟩, ⟨1, .phase⟩, ⟨2, .phase⟩, ⟨3, .phase⟩, ⟨4, .phase⟩, ⟨5, .phase⟩], none⟩) (v := ?_) rfl (by kernel_rfl) (by kernel_rfl) (by kernel_rfl) (fun _ _ _ h => h) (Or.inl ⟨by rfl, ?hyr1x6⟩) (by assumption) ?restr1x6
        case hyr1x6 => intro wq hSw; (go_simp); (try with_reducible rfl)
        try simp only [Act.put, List.setIfInBounds_toArray, List.set_cons_zero, List.set_cons_succ]
        refine wpAnyH_done (by kernel_rfl) ?_ _
        have k7 := k1.nx (((Ex.refl w3).drew.nx k5).nx k6)
        have HG : Hid (thrG l id h = groupN (sortN l) h xw) := Lib.hid (by unfold thrG; rw [← HF.out])
        have RG : Slf 3 encN w w6 a6 n6 _ := r6.old (Nat.le_trans k1.size k5.size)
        clear r5 r6 k5 k6 hn5 S1 B2 k1
        have RG := RG
        have hng := RG.len
        subst hng
        have hgl := groupN_length (sortN l) h xw
        rw [sortN_length] at hgl
        have hgl : (groupN (sortN l) h xw).length ≤ 1000 := by have := HL.out; omega
        generalize groupN (sortN l) h xw = G at RG HG hgl ⊢
        have RG := Lib.hid RG
        go_wp2_with fail
        go_loopw [12] (fun i wr => TgRel G id w6 i wr) (fun i _ => G.length - (intOf i).toNat)
        case atStart => exact ⟨0, by omega, rfl, Ex.refl _, by intro _ _ h; omega⟩
        case round =>
          obtain ⟨k, hk, rfl, kw, hno⟩ := hrel
          have HNO := Lib.hid hno
          obtain ⟨wo, rfl⟩ : ∃ wo : World, wo = wr := ⟨_, rfl⟩
          clear hno
          by_cases hlt : k < G.length
          · obtain ⟨x1, o1, y, rfl, hx1, hy, hc1⟩ := (RG.out.nx kw).sl.at hlt
            have e0 : wo.cell? ⟨x1, o1 + k * 3, none⟩ = some (.int .i64 y.id) := hc1 0 _ rfl
            have HY := Lib.hid hy
            have hlt' := Lib.hid hlt
            clear hy hc1
            by_cases hid : y.id = id
            · have HI : idxI G id = k := idxI_of HY.out hid HNO.out
              have HT : Hid (throughN l id h = (G, k, true)) := Lib.hid (by unfold throughN; rw [HG.out, HI, if_pos]; exact ⟨by rw [← HF.out], HC.out, HLV.out, hlt⟩)
              have d1 : (y.id == id) = true := by simpa using hid
              clear hid HI
              go_wp2_with fail
              refine bodyPost_ret (v := .tuple #[.slice (some ⟨x1, o1, none⟩) G.length c6, .int .i64 k, .bool true]) (by simp [results, Tryz.results119, go_sem, *]) rfl ?_
              rw [HT.out]
              exact ⟨_, _, rfl, RG.out.nx kw, k7.nx kw⟩
            · have d1 : (y.id == id) = false := by simpa using hid
              have HID := Lib.hid hid
              clear hid
              go_wp2_with fail
              refine ⟨⟨k + 1, by omega, by go_num, kw, fun j z hj hz => ?_⟩, by simp [intOf]; omega⟩
              rcases Nat.lt_or_ge j k with h | h
              · exact HNO.out j z h hz
              · obtain rfl : j = k := by omega
                rw [Option.some.inj (hz.symm.trans HY.out)]
                exact HID.out
          · obtain rfl : k = G.length := by omega
            have HT : Hid (throughN l id h = ([], 0, false)) := Lib.hid (by unfold throughN; rw [HG.out, if_neg]; rintro ⟨_, _, _, h1⟩; rw [idxI_none HNO.out] at h1; omega)
            clear hk hlt
            go_wp2_with fail
            refine bodyPost_ret (v := .tuple #[.slice none 0 0, .int .i64 0, .bool false]) (by simp [results, Tryz.results119, go_sem, *]) rfl (thPost_none HT.out (k7.nx kw))

theorem through_r (a : Option Addr) (n cp : Nat) (l : List Nd) (id h : Int) (w : World) (hs : Sl 3 encN w a n l) (hn : n ≤ 1000) (hw : ∀ x ∈ l, x.word < 4294967296) :
    Calls Tryz.prog 119 #[.slice a n cp, .int .i64 id, .int .i64 h] w (ThPost (throughN l id h) w) :=
  (through_f a n cp l id h w hs hn hw).mono fun _ _ ⟨a', c', e, s, k⟩ => ⟨a', c', e, s.sl, k⟩

def leftN (g : List Nd) (i : Nat) : Int := if i = 0 then 0 else (g[i - 1]?.getD Nd.zero).id
def rightN (g : List Nd) (i : Nat) : Int := (g[i + 1]?.getD Nd.zero).id
def neighN (l : List Nd) (id : Int) (h : Int) : (Int × Int) × Bool :=
  if (throughN l id h).2.2 then ((leftN (throughN l id h).1 (throughN l id h).2.1, rightN (throughN l id h).1 (throughN l id h).2.1), true) else ((0, 0), false)
theorem throughN_lt {l : List Nd} {id h : Int} (hr : (throughN l id h).2.2 = true) : (throughN l id h).2.1 < (throughN l id h).1.length := by
  unfold throughN at *
  split at hr
  · rename_i hc
    rw [if_pos hc]
    exact hc.2.2.2
  · cases hr
theorem throughN_len (l : List Nd) (id h : Int) : (throughN l id h).1.length ≤ l.length := by
  unfold throughN
  split
  · unfold thrG
    have := groupN_length (sortN l) h (findN l id).1.word
    rw [sortN_length] at this
    exact this
  · simp
theorem idAt {w : World} {a : Option Addr} {n : Nat} {G : List Nd} (h : Sl 3 encN w a n G) {j : Nat} (hj : j < n) : ∃ x o, a = some ⟨x, o, none⟩ ∧ x < w.heap.size ∧ w.cell? ⟨x, o + j * 3, none⟩ = some (.int .i64 (G[j]?.getD Nd.zero).id) := by
  obtain ⟨x, o, y, e, hx, hy, hc⟩ := h.at hj
  exact ⟨x, o, e, hx, by rw [hy]; exact hc 0 _ rfl⟩
def NgPost (r : (Int × Int) × Bool) (w : World) (e : Ending) (w' : World) : Prop :=
  e = .returned (.tuple #[.agg #[.int .i64 r.1.1, .int .i64 r.1.2], .bool r.2]) ∧ Ex w w'

set_option maxRecDepth 100000 in
set_option maxHeartbeats 2000000 in
theorem neigh_r (a : Option Addr) (n cp : Nat) (l : List Nd) (id h : Int) (w : World) (hs : Sl 3 encN w a n l) (hn : n ≤ 1000) (hw : ∀ x ∈ l, x.word < 4294967296) :
    Calls Tryz.prog 81 #[.slice a n cp, .int .i64 id, .int .i64 h] w (NgPost (neighN l id h) w) := by
  have HW := Lib.hid hw
  have HL := Lib.hid hs.len
  have k1 := Ex.new w (.cells #[.int .i64 0, .int .i64 0] 65)
  have B1 := Blk.new w [.int .i64 0, .int .i64 0] 65
  obtain ⟨w1, hw1⟩ : ∃ w1, w1 = w.alloc (.cells #[.int .i64 0, .int .i64 0] 65) := ⟨_, rfl⟩
  obtain ⟨g, hg⟩ : ∃ g, g = w.heap.size := ⟨_, rfl⟩
  have B1 : Blk w1 g [.int .i64 0, .int .i64 0] 65 := by rw [hw1, hg]; exact B1
  rw [← hw1] at k1
  have hgn : w.heap.size ≤ g := by omega
  have HW1 := Lib.hid hw1
  have HG := Lib.hid hg
  have S1 := hs.nx k1
  clear hs hw1 hg hw
  go_enter Tryz.func81, Tryz.ntmps81
  go_upto_region 1 with fail
  rw [← HG.out, ← HW1.out]
  go_wp2_with fail
  (with_reducible refine (through_r _ _ _ _ _ _ _ S1 hn HW.out).mono ?_)
  rintro e w2 ⟨a2, c2, rfl, R2, k2⟩
  have HLT := fun hr => throughN_lt (l := l) (id := id) (h := h) hr
  have HLE := throughN_len l id h
  have HNE : Hid (neighN l id h = if (throughN l id h).2.2 then ((leftN (throughN l id h).1 (throughN l id h).2.1, rightN (throughN l id h).1 (throughN l id h).2.1), true) else ((0, 0), false)) := Lib.hid rfl
  have hle := HL.out
  generalize throughN l id h = r at R2 HLT HLE HNE ⊢
  obtain ⟨G, i, ok⟩ := r
  have kk := k1.nx k2
  have B := B1.nx k2
  have hgl : G.length ≤ 1000 := by have := HLE; simp at this; omega
  clear S1 B1 k1 k2 HLE hle
  simp only
  cases ok with
  | false =>
    have HE : Hid (neighN l id h = ((0, 0), false)) := HNE
    have q0 := B.cell 0 _ rfl
    have q1 := B.cell 1 _ rfl
    have z0 := B.free 0
    have z1 := B.free 1
    clear R2 HLT HNE
    go_wp2_with fail
    refine bodyPost_ret (v := .tuple #[.agg #[.int .i64 0, .int .i64 0], .bool false]) (by simp [results, Tryz.results81, go_sem, *]) rfl ⟨by rw [HE.out], ?_⟩
    exact (kk.setNew (p := ⟨g, 0, none⟩) _ hgn).setNew (p := ⟨g, 1, none⟩) _ hgn
  | true =>
    have hi : i < G.length := HLT rfl
    have HE : Hid (neighN l id h = ((leftN G i, rightN G i), true)) := HNE
    have k3 := Ex.new w2 (.cells #[.int .i64 0, .int .i64 0] 65)
    have B3 := Blk.new w2 [.int .i64 0, .int .i64 0] 65
    obtain ⟨w3, hw3⟩ : ∃ w3, w3 = w2.alloc (.cells #[.int .i64 0, .int .i64 0] 65) := ⟨_, rfl⟩
    obtain ⟨g3, hg3⟩ : ∃ g3, g3 = w2.heap.size := ⟨_, rfl⟩
    have B3 : Blk w3 g3 [.int .i64 0, .int .i64 0] 65 := by rw [hw3, hg3]; exact B3
    rw [← hw3] at k3
    have hgg : g ≠ g3 := by have := B.lt; omega
    have hgn3 : w.heap.size ≤ g3 := by have := kk.size; omega
    have HW3 := Lib.hid hw3
    have HG3 := Lib.hid hg3
    replace B := B.nx k3
    replace kk := kk.nx k3
    have R3 := R2.nx k3
    clear hw3 hg3 k3 R2 HLT HNE
    go_upto_region 5 with fail
    rw [← HG3.out, ← HW3.out]
    -- the left neighbour
    obtain ⟨L, hL⟩ : ∃ L, L = leftN G i := ⟨_, rfl⟩
    obtain ⟨Rr, hR⟩ : ∃ Rr, Rr = rightN G i := ⟨_, rfl⟩
    rw [← hL, ← hR] at HE
    have q0 := B3.cell 0 _ rfl
    have q1 := B3.cell 1 _ rfl
    have z0 := B3.free 0
    have z1 := B3.free 1
    have p0 := B.cell 0 _ rfl
    have p1 := B.cell 1 _ rfl
    have y0 := B.free 0
    have y1 := B.free 1
    have hgg2 : ¬ g = g3 := hgg
    have hgg3 : ¬ g3 = g := fun h => hgg h.symm
    by_cases hi0 : i = 0
    · have hL0 : L = 0 := by rw [hL]; unfold leftN; rw [if_pos hi0]
      subst hL0
      have d0 : ¬ (0 : Int) < (i : Int) := by omega
      by_cases hr : i + 1 < G.length
      · have hR1 : Rr = (G[i + 1]?.getD Nd.zero).id := hR
        obtain ⟨x5, o5, ex, hx5, f5⟩ := idAt R3 (j := i + 1) hr
        subst ex
        rw [← hR1] at f5
        replace f5 : w3.cell? ⟨x5, o5 + 3, none⟩ = some (.int .i64 Rr) := by rw [hi0] at f5; exact f5
        have dr : (i : Int) + 1 < (G.length : Int) := by omega
        clear hL hR R3 hR1
        go_wp2_with fail
        refine bodyPost_ret (v := .tuple #[.agg #[.int .i64 0, .int .i64 Rr], .bool true]) (by simp [results, Tryz.results81, go_sem, *]) rfl ⟨by rw [HE.out], ?_⟩
        repeat (first | exact kk | refine Ex.setNew ?_ _ (by first | exact hgn | exact hgn3))
      · have hR1 : Rr = 0 := by rw [hR]; unfold rightN; rw [List.getElem?_eq_none (by omega)]; rfl
        subst hR1
        have dr : ¬ (i : Int) + 1 < (G.length : Int) := by omega
        clear hL hR R3
        go_wp2_with fail
        refine bodyPost_ret (v := .tuple #[.agg #[.int .i64 0, .int .i64 0], .bool true]) (by simp [results, Tryz.results81, go_sem, *]) rfl ⟨by rw [HE.out], ?_⟩
        repeat (first | exact kk | refine Ex.setNew ?_ _ (by first | exact hgn | exact hgn3))
    · have hL0 : L = (G[i - 1]?.getD Nd.zero).id := by rw [hL]; unfold leftN; rw [if_neg hi0]
      have d0 : (0 : Int) < (i : Int) := by omega
      have hi1 : (i : Int) - 1 = ((i - 1 : Nat) : Int) := by omega
      obtain ⟨x4, o4, rfl, hx4, f4⟩ := idAt R3 (j := i - 1) (by simp only at hi ⊢; omega)
      rw [← hL0] at f4
      clear hL0
      by_cases hr : i + 1 < G.length
      · have hR1 : Rr = (G[i + 1]?.getD Nd.zero).id := hR
        obtain ⟨x5, o5, ex, hx5, f5⟩ := idAt R3 (j := i + 1) hr
        cases ex
        rw [← hR1] at f5
        have dr : (i : Int) + 1 < (G.length : Int) := by omega
        clear hL hR R3 hR1
        go_wp2_with fail
        refine bodyPost_ret (v := .tuple #[.agg #[.int .i64 L, .int .i64 Rr], .bool true]) (by simp [results, Tryz.results81, go_sem, *]) rfl ⟨by rw [HE.out], ?_⟩
        repeat (first | exact kk | refine Ex.setNew ?_ _ (by first | exact hgn | exact hgn3))
      · have hR1 : Rr = 0 := by rw [hR]; unfold rightN; rw [List.getElem?_eq_none (by omega)]; rfl
        subst hR1
        have dr : ¬ (i : Int) + 1 < (G.length : Int) := by omega
        clear hL hR R3
        go_wp2_with fail
        refine bodyPost_ret (v := .tuple #[.agg #[.int .i64 L, .int .i64 0], .bool true]) (by simp [results, Tryz.results81, go_sem, *]) rfl ⟨by rw [HE.out], ?_⟩
        repeat (first | exact kk | refine Ex.setNew ?_ _ (by first | exact hgn | exact hgn3))
end Go.Proofs.YtbnbjiddffihoaaGreatDoor

/- Nodes, and walks over Group of the package word and of its reference. -/
namespace Go.Proofs.YtbnbjiddffihoaaGreatDoor
open Go.RowKit

set_option maxHeartbeats 1000000 in
theorem group_p {S : Nat → Prop} (a : Option Addr) (n cap : Nat) (l : List Nd) (h : Int) (v : Nat) (w : World) (hr : Rd 3 encN S w a n l) (hS : ∀ k, S k → k < w.heap.size) (hn : n ≤ 1000)
    (hw : ∀ x ∈ l, x.word < 4294967296) (hv : v < 4294967296) (hT : TabG w) :
    Calls Tryz.prog 118 #[.slice a n cap, .int .i64 h, .int .u32 v] w (NodesPost (groupN l h v) w) := by
  have hlen := hr.1
  have hlt := hT.lt
  have HT := Lib.hid hT
  have HL := Lib.hid hlen
  have HW := Lib.hid hw
  clear hT hlen hw
  go_enter Tryz.func118, Tryz.ntmps118
  go_wp2
  go_loopw [7, 12] (fun o i wr => GroupRel l h v w o i wr) (fun _ i _ => n - (intOf i).toNat)
  case atStart => exact ⟨0, by omega, rfl, OwnL.nil _ _ _ _ _, Chg.refl _ _⟩
  case round =>
    obtain ⟨k, hk, rfl, hown, hc⟩ := hrel
    obtain ⟨wo, rfl⟩ : ∃ wo : World, wo = wr := ⟨_, rfl⟩
    have hwo := hr.chg hc hS
    have hsz := hc.size
    have HT' := Lib.hid (HT.out.chg hc hlt)
    have hgl := groupN_length (l.take k) h v
    rw [List.length_take] at hgl
    have hkl := HL.out
    by_cases hlt' : k < n
    · obtain ⟨x, o, y, rfl, hx, hy, hcell⟩ := hwo.at hlt'
      have e0 : wo.cell? ⟨x, o + k * 3, none⟩ = some (.int .i64 y.id) := hcell 0 _ rfl
      have e1 : wo.cell? ⟨x, o + k * 3 + 1, none⟩ = some (.string y.key) := hcell 1 _ rfl
      have e2 : wo.cell? ⟨x, o + k * 3 + 1 + 1, none⟩ = some (.int .u32 y.word) := by simpa [Nat.add_assoc] using hcell 2 _ rfl
      have hyw := HW.out y (List.mem_of_getElem? hy)
      have Hy := Lib.hid hy
      have hc1 := hc.alloc (.cells #[.int .i64 y.id, .string y.key, .int .u32 y.word] 57) (by intro k hk; omega)
      have hown1 := hown.alloc (.cells #[.int .i64 y.id, .string y.key, .int .u32 y.word] 57)
      have HT1 := Lib.hid (HT'.out.chg ((Chg.refl (· < wo.heap.size) wo).alloc (.cells #[.int .i64 y.id, .string y.key, .int .u32 y.word] 57) (by simp)) (by omega))
      clear hy hcell hr hwo hkl
      by_cases hs : sameN y.word v h = true
      · go_wp2_with (first
          | (go_at_call 139; refine (same_p _ _ _ _ hyw hv HT1.out).mono ?_; rintro e w1 ⟨rfl, rfl⟩)
          | (at_builtin; go_loud (refine wpList_append_lit (enc := encN) (wo.alloc (.cells #[.int .i64 y.id, .string y.key, .int .u32 y.word] 57)) rfl _ _ 23 rfl w.heap.size 57 (.agg #[.int .i64 0, .string ByteArray.empty, .int .u32 0]) 3 32 Tryz.underlying23 Tryz.infoN rfl (by omega) (by omega) _ _ hown1 rfl y _ rfl rfl (by simp [encN, Value.oneCell']) _ (by simp) rfl (by omega) (by simp; omega) _ ?_); intro v' w3 hown3 _ hch3 hz3))
        go_roundw
        case rel => exact ⟨k + 1, by have := HL.out; omega, by go_num, by rw [groupN_snoc l h v k y Hy.out, if_pos hs]; exact hown3, hc1.then hch3 (fun _ h => h)⟩
        case measure => simp [intOf]; omega
      · have hs : sameN y.word v h = false := by simpa using hs
        go_wp2_with (go_at_call 139; refine (same_p _ _ _ _ hyw hv HT1.out).mono ?_; rintro e w1 ⟨rfl, rfl⟩)
        go_roundw
        case rel => exact ⟨k + 1, by have := HL.out; omega, by go_num, by rw [groupN_snoc l h v k y Hy.out, if_neg (by simp [hs])]; exact hown1, hc1⟩
        case measure => simp [intOf]; omega
    · obtain rfl : k = n := by omega
      rw [List.take_of_length_le (by omega)] at hown
      obtain ⟨a', cap', rfl, hrd, _⟩ := hown.rd (fun _ => rfl)
      clear hown hr hwo
      go_wp2
      go_ret
      exact ⟨a', _, cap', rfl, hrd, hc⟩

end Go.Proofs.YtbnbjiddffihoaaGreatDoor

/- ordered and Height of the package ideal. -/
namespace Go.Proofs.YtbnbjiddffihoaaGreatDoor
open Go.RowKit

def OrdPost (l : List Nd) (w : World) (e : Ending) (w' : World) : Prop :=
  ∃ (v : Value) (S : List Nd), e = .returned (.tuple #[v, .bool (checkN l == 0)]) ∧ OwnL 3 encN 57 w.heap.size w' v S ∧ (S.Perm l ∧ (checkN l = 0 → S = sortN l)) ∧ Ex w w'
set_option maxHeartbeats 1000000 in
theorem ordered_p (a : Option Addr) (n c : Nat) (l : List Nd) (w : World) (h : Sl 3 encN w a n l) (hn : n ≤ 1000) (hc : n ≤ c) (hm : c ≤ maxLen) :
    Calls Tryz.prog 93 #[.slice a n c] w (OrdPost l w) := by
  go_enter Tryz.func93, Tryz.ntmps93
  go_wp2_with fail
  (with_reducible refine (sort_p _ _ _ _ _ h hn).mono ?_)
  rintro e w1 ⟨v, S, rfl, own1, ⟨hp, ha⟩, k1⟩
  have h1 := h.nx k1
  have O1 := Lib.hid own1
  have HP := Lib.hid hp
  have HA := Lib.hid ha
  have K1 := Lib.hid k1
  clear h own1 hp ha k1
  go_wp2_with fail
  (with_reducible refine (check_p _ _ _ _ _ h1 (by omega) hc hm).mono ?_)
  rintro e w2 ⟨rfl, k2⟩
  have O2 := Lib.hid (O1.out.nx k2)
  have K2 := Lib.hid (K1.out.nx k2)
  clear h1 k2
  go_wp2_with fail
  go_ret2
  exact ⟨v, S, rfl, O2.out, ⟨HP.out, fun h0 => sortN_unique (check_keys h0) HP.out HA.out⟩, K2.out⟩

def nbStep (x : Nd) (s : Int × Int) (y : Nd) : Int × Int :=
  (if Op.bytesLess y.key.toList x.key.toList then y.id else s.1, if !(Op.bytesLess y.key.toList x.key.toList || y.key.toList == x.key.toList) && s.2 == 0 then y.id else s.2)
def nbFold (x : Nd) (G : List Nd) : Int × Int := G.foldl (nbStep x) (0, 0)
theorem nbFold_snoc (x : Nd) (G : List Nd) (k : Nat) (y : Nd) (hy : G[k]? = some y) : nbFold x (G.take (k + 1)) = nbStep x (nbFold x (G.take k)) y := by
  unfold nbFold
  rw [take_snocN G k y hy, List.foldl_append]
  rfl
end Go.Proofs.YtbnbjiddffihoaaGreatDoor

/- The neighbours of a node in a sorted list, in plain Lean. -/
namespace Go.Proofs.YtbnbjiddffihoaaGreatDoor
open Go.RowKit

def AscS (l : List Nd) : Prop := l.Pairwise fun x y => Op.bytesLess x.key.toList y.key.toList = true ∧ x.id ≠ y.id
theorem keys_pw {l : List Nd} (h : KeysN l) : l.Pairwise fun x y => x.key.toList ≠ y.key.toList ∧ x.id ≠ y.id := by
  rw [List.pairwise_iff_getElem]
  intro i j hi hj hij
  have := h j i l[j] l[i] hij (List.getElem?_eq_getElem hj) (List.getElem?_eq_getElem hi)
  refine ⟨fun he => this.1 ?_, fun he => this.2 he.symm⟩
  rw [ByteArray.toList_eq, ByteArray.toList_eq] at he
  exact (ByteArray.ext (Array.toList_inj.1 he)).symm
theorem sortN_str {l : List Nd} (h : checkN l = 0) : AscS (sortN l) := by
  have h1 : (sortN l).Pairwise fun x y => x.key.toList ≠ y.key.toList ∧ x.id ≠ y.id :=
    ((sortN_perm l).symm.pairwise_iff (fun {x y} hxy => ⟨fun he => hxy.1 he.symm, fun he => hxy.2 he.symm⟩)).1 (keys_pw (check_keys h))
  have h2 := sortN_asc l
  unfold AscN at h2
  unfold AscS
  refine (h1.and h2).imp ?_
  rintro x y ⟨⟨a, b⟩, c⟩
  rw [ltN_no] at c
  rcases c with c | ⟨c, _⟩
  · exact ⟨c, b⟩
  · exact absurd c.symm a
theorem asc_group {l : List Nd} (h : AscS l) (lev : Int) (v : Nat) : AscS (groupN l lev v) := List.Pairwise.filter _ h
theorem asc_at {G : List Nd} (h : AscS G) {i j : Nat} {x y : Nd} (hx : G[i]? = some x) (hy : G[j]? = some y) (hij : i < j) : Op.bytesLess x.key.toList y.key.toList = true ∧ x.id ≠ y.id := by
  obtain ⟨hi, e1⟩ := List.getElem?_eq_some_iff.1 hx
  obtain ⟨hj, e2⟩ := List.getElem?_eq_some_iff.1 hy
  have := List.pairwise_iff_getElem.1 h i j hi hj hij
  rwa [e1, e2] at this
theorem idxI_at {G : List Nd} (h : AscS G) {i : Nat} {x : Nd} (hx : G[i]? = some x) : idxI G x.id = i := by
  refine idxI_of hx rfl fun j z hj hz => ?_
  exact (asc_at h hz hx hj).2
theorem step_less {x y : Nd} {s : Int × Int} (h : Op.bytesLess y.key.toList x.key.toList = true) : nbStep x s y = (y.id, s.2) := by unfold nbStep; rw [h]; rfl
theorem step_same (x : Nd) (s : Int × Int) : nbStep x s x = s := by unfold nbStep; simp [bytesLess_irrefl]
theorem step_more {x y : Nd} {s : Int × Int} (h : Op.bytesLess x.key.toList y.key.toList = true) : nbStep x s y = (s.1, if s.2 = 0 then y.id else s.2) := by
  have h1 := bl_asymm h
  have h2 : (y.key.toList == x.key.toList) = false := by
    rw [beq_eq_false_iff_ne]
    intro he
    rw [he, bytesLess_irrefl] at h
    cases h
  unfold nbStep
  rw [h1, h2]
  simp
theorem nbFold_a {G : List Nd} (h : AscS G) {i : Nat} {x : Nd} (hx : G[i]? = some x) : ∀ k, k ≤ i → nbFold x (G.take k) = (leftN G k, 0) := by
  intro k
  induction k with
  | zero => intro _; rfl
  | succ k ih =>
    intro hk
    have hl := (List.getElem?_eq_some_iff.1 hx).1
    obtain ⟨y, hy⟩ : ∃ y, G[k]? = some y := ⟨G[k], List.getElem?_eq_getElem (by omega)⟩
    rw [nbFold_snoc x G k y hy, ih (by omega), step_less (asc_at h hy hx (by omega)).1]
    show ((y.id, 0) : Int × Int) = (leftN G (k + 1), 0)
    unfold leftN
    rw [if_neg (by omega), Nat.add_sub_cancel, hy]
    rfl
theorem nbFold_b {G : List Nd} (h : AscS G) {i : Nat} {x : Nd} (hx : G[i]? = some x) : nbFold x (G.take (i + 1)) = (leftN G i, 0) := by
  rw [nbFold_snoc x G i x hx, nbFold_a h hx i (Nat.le_refl _), step_same]
theorem nbFold_c {G : List Nd} (h : AscS G) (hid : ∀ y ∈ G, 1 ≤ y.id) {i : Nat} {x : Nd} (hx : G[i]? = some x) : ∀ d, i + 2 + d ≤ G.length → nbFold x (G.take (i + 2 + d)) = (leftN G i, rightN G i) := by
  intro d hd
  have hd0 : i + 1 < G.length := by omega
  obtain ⟨z, hz⟩ : ∃ z, G[i + 1]? = some z := ⟨G[i + 1], List.getElem?_eq_getElem hd0⟩
  have hz1 := hid z (List.mem_of_getElem? hz)
  have hr : rightN G i = z.id := by unfold rightN; rw [hz]; rfl
  induction d with
  | zero =>
    rw [Nat.add_zero, show i + 2 = i + 1 + 1 from rfl, nbFold_snoc x G (i + 1) z hz, nbFold_b h hx, step_more (asc_at h hx hz (by omega)).1, hr]
    rfl
  | succ d ih =>
    obtain ⟨y, hy⟩ : ∃ y, G[i + 2 + d]? = some y := ⟨G[i + 2 + d]'(by omega), List.getElem?_eq_getElem (by omega)⟩
    rw [← Nat.add_assoc, nbFold_snoc x G (i + 2 + d) y hy, ih (by omega), step_more (asc_at h hx hy (by omega)).1]
    show (leftN G i, if rightN G i = 0 then y.id else rightN G i) = _
    rw [if_neg (by rw [hr]; omega)]
theorem nbFold_all {G : List Nd} (h : AscS G) (hid : ∀ y ∈ G, 1 ≤ y.id) {i : Nat} {x : Nd} (hx : G[i]? = some x) : nbFold x G = (leftN G i, rightN G i) := by
  have hl := (List.getElem?_eq_some_iff.1 hx).1
  rcases Nat.lt_or_ge (i + 1) G.length with h1 | h1
  · have := nbFold_c h hid hx (G.length - (i + 2)) (by omega)
    rwa [show i + 2 + (G.length - (i + 2)) = G.length by omega, List.take_length] at this
  · have := nbFold_b h hx
    rw [show i + 1 = G.length by omega, List.take_length] at this
    rw [this]
    have : rightN G i = 0 := by unfold rightN; rw [List.getElem?_eq_none h1]; rfl
    rw [this]
theorem neighN_no {l : List Nd} {id h : Int} (hno : checkN l ≠ 0 ∨ (findN l id).2 = false ∨ lvlN h = false) : neighN l id h = ((0, 0), false) := by
  have ht : throughN l id h = ([], 0, false) := by
    unfold throughN
    rw [if_neg]
    rintro ⟨h1, h2, h3, _⟩
    rcases hno with h | h | h
    · exact h (by simpa using h2)
    · rw [h1] at h; cases h
    · rw [h3] at h; cases h
  unfold neighN
  rw [ht]
  rfl
theorem findN_mem {l : List Nd} {id : Int} (h : (findN l id).2 = true) : (findN l id).1 ∈ l ∧ (findN l id).1.id = id := by
  unfold findN at *
  cases e : l.find? (fun x => x.id == id) with
  | none => rw [e] at h; cases h
  | some x =>
    exact ⟨List.mem_of_find?_eq_some e, by simpa using List.find?_some e⟩
theorem neighN_yes {l : List Nd} {id h : Int} (h1 : checkN l = 0) (h2 : (findN l id).2 = true) (h3 : lvlN h = true) :
    ∃ i, (thrG l id h)[i]? = some (findN l id).1 ∧ throughN l id h = (thrG l id h, i, true) ∧ neighN l id h = ((leftN (thrG l id h) i, rightN (thrG l id h) i), true) := by
  obtain ⟨m1, m2⟩ := findN_mem h2
  have hA : AscS (thrG l id h) := asc_group (sortN_str h1) h _
  have hm : (findN l id).1 ∈ thrG l id h := by
    unfold thrG groupN
    rw [List.mem_filter]
    exact ⟨(sortN_mem l _).2 m1, sameN_refl _ (by unfold lvlN at h3; simp at h3; exact h3.2)⟩
  obtain ⟨i, hi⟩ := List.mem_iff_getElem?.1 hm
  have hid := idxI_at hA hi
  rw [m2] at hid
  have hlt := (List.getElem?_eq_some_iff.1 hi).1
  have ht : throughN l id h = (thrG l id h, i, true) := by
    unfold throughN
    rw [if_pos ⟨h2, by rw [h1]; rfl, h3, by rw [hid]; exact hlt⟩, hid]
  refine ⟨i, hi, ht, ?_⟩
  unfold neighN
  rw [ht]
  rfl
theorem nbFold_neigh {l : List Nd} {id h : Int} (h1 : checkN l = 0) (h2 : (findN l id).2 = true) (h3 : lvlN h = true) : neighN l id h = (nbFold (findN l id).1 (thrG l id h), true) := by
  obtain ⟨i, hi, _, hn⟩ := neighN_yes h1 h2 h3
  have hA : AscS (thrG l id h) := asc_group (sortN_str h1) h _
  have hid : ∀ y ∈ thrG l id h, 1 ≤ y.id := fun y hy => by
    unfold thrG groupN at hy
    have := (sortN_mem l y).1 (List.mem_filter.1 hy).1
    unfold checkN at h1
    split at h1
    · omega
    · split at h1
      · omega
      · rename_i hb
        have hb : badN y = false := by
          cases hy2 : badN y with
          | false => rfl
          | true => exact absurd (List.any_eq_true.2 ⟨y, this, hy2⟩) hb
        unfold badN at hb
        simp only [Bool.or_eq_false_iff, decide_eq_false_iff_not] at hb
        omega
  rw [hn, nbFold_all hA hid hi]
end Go.Proofs.YtbnbjiddffihoaaGreatDoor

/- Neighbours of the package ideal. -/
namespace Go.Proofs.YtbnbjiddffihoaaGreatDoor
open Go.RowKit

def NiRel (x : Nd) (G : List Nd) (g12 : Nat) (w : World) (i : Value) (wr : World) : Prop :=
  ∃ k : Nat, k ≤ G.length ∧ i = .int .i64 k ∧ Exb g12 w wr ∧ Blk wr g12 [.int .i64 (nbFold x (G.take k)).1, .int .i64 (nbFold x (G.take k)).2] 65
theorem ng_no {l : List Nd} {id h : Int} {w w' : World} (hno : neighN l id h = ((0, 0), false)) (k : Ex w w') : NgPost (neighN l id h) w (.returned (.tuple #[.agg #[.int .i64 0, .int .i64 0], .bool false])) w' := by
  rw [hno]; exact ⟨rfl, k⟩
theorem OwnL.sl3 {sz e base : Nat} {α : Type} {enc : α → List Value} {w : World} {v : Value} {l : List α} (h : OwnL sz enc e base w v l) (hsz : ∀ y, (enc y).length = sz) : ∃ a cap, v = .slice a l.length cap ∧ Sl sz enc w a l.length l ∧ l.length ≤ cap ∧ cap ≤ maxLen := by
  obtain ⟨a, cap, e, h1, h2, h3, _⟩ := h.rd hsz
  exact ⟨a, cap, e, h1.mono (fun _ hk => hk.2), h2, h3⟩

set_option maxRecDepth 100000 in
set_option maxHeartbeats 2000000 in
theorem neigh_p (a : Option Addr) (n c : Nat) (l : List Nd) (id h : Int) (w : World) (hs : Sl 3 encN w a n l) (hn : n ≤ 1000) (hc : n ≤ c) (hm : c ≤ maxLen) (hw : ∀ x ∈ l, x.word < 4294967296) (hT : TabG w) :
    Calls Tryz.prog 80 #[.slice a n c, .int .i64 id, .int .i64 h] w (NgPost (neighN l id h) w) := by
  have HW := Lib.hid hw
  have HXW := findN_word hw id
  have HL := Lib.hid hs.len
  have k1 := Ex.new w (.cells #[.int .i64 0, .int .i64 0] 65)
  have B1 := Blk.new w [.int .i64 0, .int .i64 0] 65
  obtain ⟨w1, hw1⟩ : ∃ w1, w1 = w.alloc (.cells #[.int .i64 0, .int .i64 0] 65) := ⟨_, rfl⟩
  obtain ⟨g, hg⟩ : ∃ g, g = w.heap.size := ⟨_, rfl⟩
  have B1 : Blk w1 g [.int .i64 0, .int .i64 0] 65 := by rw [hw1, hg]; exact B1
  rw [← hw1] at k1
  have hgn : w.heap.size ≤ g := by omega
  have HW1 := Lib.hid hw1
  have HG := Lib.hid hg
  have S1 := hs.nx k1
  have HT := Lib.hid (hT.nx k1)
  clear hs hw1 hg hw hT
  go_enter Tryz.func80, Tryz.ntmps80
  go_upto_region 1 with fail
  rw [← HG.out, ← HW1.out]
  go_wp2_with fail
  (with_reducible refine (ordered_p _ _ _ _ _ S1 hn hc hm).mono ?_)
  rintro e w2 ⟨v, S, rfl, OS, ⟨hp, hsrt⟩, k2⟩
  have SL := Lib.hid hp.length_eq
  have HSR := Lib.hid hsrt
  have SW : Hid (∀ x ∈ S, x.word < 4294967296) := Lib.hid (fun x hx => HW.out x (hp.mem_iff.1 hx))
  replace S1 := S1.nx k2
  replace B1 := B1.nx k2
  replace HT := Lib.hid (HT.out.nx k2)
  replace k1 := k1.nx k2
  have OS := Lib.hid OS
  clear hp hsrt k2
  go_wp2_with fail
  (with_reducible refine (find_p _ _ _ _ _ _ S1 (by omega)).mono ?_)
  rintro e w3 ⟨rfl, k3⟩
  obtain ⟨F, hF⟩ : ∃ F, F = findN l id := ⟨_, rfl⟩
  have HF := Lib.hid hF
  rw [← hF] at HXW ⊢
  obtain ⟨⟨xi, xk, xw⟩, ok⟩ := F
  have k4 := Ex.new w3 (.cells #[.int .i64 xi, .string xk, .int .u32 xw] 57)
  have B2 := Blk.new w3 [.int .i64 xi, .string xk, .int .u32 xw] 57
  obtain ⟨w4, hw4⟩ : ∃ w4, w4 = w3.alloc (.cells #[.int .i64 xi, .string xk, .int .u32 xw] 57) := ⟨_, rfl⟩
  obtain ⟨g2, hg2⟩ : ∃ g2, g2 = w3.heap.size := ⟨_, rfl⟩
  have B2 : Blk w4 g2 [.int .i64 xi, .string xk, .int .u32 xw] 57 := by rw [hw4, hg2]; exact B2
  rw [← hw4] at k4
  have HW4 := Lib.hid hw4
  have HG2 := Lib.hid hg2
  replace k3 := k3.nx k4
  replace OS := Lib.hid (OS.out.nx k3)
  replace B1 := B1.nx k3
  replace HT := Lib.hid (HT.out.nx k3)
  replace k1 := k1.nx k3
  clear hF hw4 hg2 k4 k3 S1
  simp only [Nd.val]
  go_upto_region 3 with fail
  rw [← HG2.out, ← HW4.out]
  by_cases hck : checkN l = 0
  case neg =>
    have HNO : Hid (neighN l id h = ((0, 0), false)) := Lib.hid (neighN_no (.inl hck))
    have d1 : (checkN l == 0) = false := by simpa using hck
    rw [d1]
    have q0 := B1.cell 0 _ rfl
    have q1 := B1.cell 1 _ rfl
    have z0 := B1.free 0
    have z1 := B1.free 1
    clear hck d1 B2
    go_wp2_with fail
    refine bodyPost_ret (v := .tuple #[.agg #[.int .i64 0, .int .i64 0], .bool false]) (by simp [results, Tryz.results80, go_sem, *]) rfl (ng_no HNO.out ?_)
    exact (k1.setNew (p := ⟨g, 0, none⟩) _ hgn).setNew (p := ⟨g, 1, none⟩) _ hgn
  have HCK := Lib.hid hck
  have d1 : (checkN l == 0) = true := by simpa using hck
  rw [d1]
  clear hck d1
  cases ok with
  | false =>
    have HNO : Hid (neighN l id h = ((0, 0), false)) := Lib.hid (neighN_no (.inr (.inl (by rw [← HF.out]))))
    have q0 := B1.cell 0 _ rfl
    have q1 := B1.cell 1 _ rfl
    have z0 := B1.free 0
    have z1 := B1.free 1
    clear B2
    go_wp2_with fail
    refine bodyPost_ret (v := .tuple #[.agg #[.int .i64 0, .int .i64 0], .bool false]) (by simp [results, Tryz.results80, go_sem, *]) rfl (ng_no HNO.out ?_)
    exact (k1.setNew (p := ⟨g, 0, none⟩) _ hgn).setNew (p := ⟨g, 1, none⟩) _ hgn
  | true =>
    by_cases hlo : h < 0
    · have HNO : Hid (neighN l id h = ((0, 0), false)) := Lib.hid (neighN_no (.inr (.inr (by unfold lvlN; simp; omega))))
      have q0 := B1.cell 0 _ rfl
      have q1 := B1.cell 1 _ rfl
      have z0 := B1.free 0
      have z1 := B1.free 1
      clear B2
      go_wp2_with fail
      refine bodyPost_ret (v := .tuple #[.agg #[.int .i64 0, .int .i64 0], .bool false]) (by simp [results, Tryz.results80, go_sem, *]) rfl (ng_no HNO.out ?_)
      exact (k1.setNew (p := ⟨g, 0, none⟩) _ hgn).setNew (p := ⟨g, 1, none⟩) _ hgn
    · by_cases hhi : 16 < h
      · have HNO : Hid (neighN l id h = ((0, 0), false)) := Lib.hid (neighN_no (.inr (.inr (by unfold lvlN; simp; omega))))
        have q0 := B1.cell 0 _ rfl
        have q1 := B1.cell 1 _ rfl
        have z0 := B1.free 0
        have z1 := B1.free 1
        clear B2
        go_wp2_with fail
        refine bodyPost_ret (v := .tuple #[.agg #[.int .i64 0, .int .i64 0], .bool false]) (by simp [results, Tryz.results80, go_sem, *]) rfl (ng_no HNO.out ?_)
        exact (k1.setNew (p := ⟨g, 0, none⟩) _ hgn).setNew (p := ⟨g, 1, none⟩) _ hgn
      · have HYES : Hid (neighN l id h = (nbFold ⟨xi, xk, xw⟩ (groupN S h xw), true)) := Lib.hid (by
          have := nbFold_neigh (l := l) (id := id) (h := h) HCK.out (by rw [← HF.out]) (by unfold lvlN; simp; omega)
          unfold thrG at this
          rw [← HF.out, ← HSR.out HCK.out] at this
          exact this)
        have k5 := Ex.new w4 (.cells #[.int .i64 0, .int .i64 0] 65)
        have B3 := Blk.new w4 [.int .i64 0, .int .i64 0] 65
        obtain ⟨w5, hw5⟩ : ∃ w5, w5 = w4.alloc (.cells #[.int .i64 0, .int .i64 0] 65) := ⟨_, rfl⟩
        obtain ⟨g3, hg3⟩ : ∃ g3, g3 = w4.heap.size := ⟨_, rfl⟩
        have B3 : Blk w5 g3 [.int .i64 0, .int .i64 0] 65 := by rw [hw5, hg3]; exact B3
        rw [← hw5] at k5
        have h13 : g ≠ g3 := by have := B1.lt; omega
        have h23 : g2 ≠ g3 := by have := B2.lt; omega
        have hgn3 : w.heap.size ≤ g3 := by have := k1.size; omega
        have HW5 := Lib.hid hw5
        have HG3 := Lib.hid hg3
        replace OS := OS.out.nx k5
        replace B1 := B1.nx k5
        replace B2 := B2.nx k5
        replace HT := Lib.hid (HT.out.nx k5)
        replace k1 := k1.nx k5
        obtain ⟨aS, cS, rfl, sS, _, _⟩ := OS.sl3 (fun _ => rfl)
        have b22 := B2.cell 2 _ rfl
        have hnS : S.length ≤ 1000 := by have := HL.out; have := SL.out; omega
        clear hw5 hg3 k5
        go_upto_region 6 with fail
        rw [← HG3.out, ← HW5.out]
        clear OS
        have sS : Rd 3 encN (· < w5.heap.size) w5 aS S.length S := sS
        go_wp2_with fail
        (with_reducible refine (group_p _ _ _ _ _ _ _ sS (fun _ hk => hk) hnS SW.out HXW HT.out).mono ?_)
        rintro e w6 ⟨a6, n6, c6, rfl, r6, k6⟩
        have r6 : Slf 3 encN w5 w6 a6 n6 _ := r6
        replace k6 : Ex w5 w6 := k6
        have hgl := groupN_length S h xw
        generalize groupN S h xw = G at r6 HYES hgl ⊢
        have RG := Lib.hid (r6.slb B3.lt)
        have hng := r6.len
        subst hng
        replace B1 := B1.nx k6
        replace B2 := Lib.hid (B2.nx k6)
        replace B3 := B3.nx k6
        replace k1 := k1.nx k6
        have B1 := Lib.hid B1
        clear r6 k6 sS b22
        have hG6 : G.length ≤ 1000 := by omega
        go_wp2_with fail
        go_loopw [47] (fun i wr => NiRel ⟨xi, xk, xw⟩ G g3 w6 i wr) (fun i _ => G.length - (intOf i).toNat)
        case atStart => exact ⟨0, by omega, rfl, Exb.refl _ _, B3⟩
        case round =>
          obtain ⟨k, hk, rfl, kw, B3⟩ := hrel
          obtain ⟨wo, rfl⟩ : ∃ wo : World, wo = wr := ⟨_, rfl⟩
          by_cases hlt : k < G.length
          · obtain ⟨x1, o1, y, rfl, hx1, hy, hc1⟩ := ((RG.out.nxb kw).sl).at hlt
            obtain ⟨yi, yk, yw⟩ := y
            have e0 : wo.cell? ⟨x1, o1 + k * 3, none⟩ = some (.int .i64 yi) := hc1 0 _ rfl
            have e1 : wo.cell? ⟨x1, o1 + k * 3 + 1, none⟩ = some (.string yk) := hc1 1 _ rfl
            have e2 : wo.cell? ⟨x1, o1 + k * 3 + 2, none⟩ = some (.int .u32 yw) := hc1 2 _ rfl
            have e2' : wo.cell? ⟨x1, o1 + k * 3 + 1 + 1, none⟩ = some (.int .u32 yw) := e2
            have FS : Hid (nbFold ⟨xi, xk, xw⟩ (G.take (k + 1)) = nbStep ⟨xi, xk, xw⟩ (nbFold ⟨xi, xk, xw⟩ (G.take k)) ⟨yi, yk, yw⟩) := Lib.hid (nbFold_snoc _ _ _ _ hy)
            clear hy hc1
            obtain ⟨FF, hFF⟩ : ∃ FF, FF = nbFold ⟨xi, xk, xw⟩ (G.take k) := ⟨_, rfl⟩
            rw [← hFF] at B3 FS
            clear hFF
            obtain ⟨f1, f2⟩ := FF
            have k7 := Ex.new wo (.cells #[.int .i64 yi, .string yk, .int .u32 yw] 57)
            have B4 := Blk.new wo [.int .i64 yi, .string yk, .int .u32 yw] 57
            obtain ⟨w7, hw7⟩ : ∃ w7, w7 = wo.alloc (.cells #[.int .i64 yi, .string yk, .int .u32 yw] 57) := ⟨_, rfl⟩
            obtain ⟨g4, hg4⟩ : ∃ g4, g4 = wo.heap.size := ⟨_, rfl⟩
            have B4 : Blk w7 g4 [.int .i64 yi, .string yk, .int .u32 yw] 57 := by rw [hw7, hg4]; exact B4
            rw [← hw7] at k7
            have h34 : g3 ≠ g4 := by have := B3.lt; omega
            have HW7 := Lib.hid hw7
            have HG4 := Lib.hid hg4
            have B3 := B3.nx k7
            have kw := kw.nxb (k7.b g3)
            have B2' := B2.out.nxb h23 kw
            clear hw7 hg4 k7
            go_upto_region 9 with fail
            rw [← HG4.out, ← HW7.out]
            clear e0 e1 e2 e2'
            have p1 := B2'.cell 1 _ rfl
            have y0 := B4.cell 0 _ rfl
            have y1 := B4.cell 1 _ rfl
            have t0 := B3.cell 0 _ rfl
            have t1 := B3.cell 1 _ rfl
            have z0 := B3.free 0
            have z1 := B3.free 1
            cases hb : Op.bytesLess yk.toList xk.toList with
            | true =>
              have FS' : Hid (nbFold ⟨xi, xk, xw⟩ (G.take (k + 1)) = (yi, f2)) := Lib.hid (by rw [FS.out]; exact step_less hb)
              have B3' := B3.set 0 (.int .i64 yi)
              clear B2' B4 B3
              go_wp2_with fail
              refine ⟨⟨k + 1, by omega, by go_num, kw.setB _ rfl, ?_⟩, by simp [intOf]; omega⟩
              rw [FS'.out]; exact B3'
            | false =>
              cases he : (yk.toList == xk.toList) with
              | true =>
                have FS' : Hid (nbFold ⟨xi, xk, xw⟩ (G.take (k + 1)) = (f1, f2)) := Lib.hid (by rw [FS.out]; unfold nbStep; simp [hb, he])
                have B3' := Lib.hid B3
                clear B2' B4 B3
                go_wp2_with fail
                refine ⟨⟨k + 1, by omega, by go_num, kw, ?_⟩, by simp [intOf]; omega⟩
                rw [FS'.out]; exact B3'.out
              | false =>
                by_cases h0 : f2 = 0
                · have FS' : Hid (nbFold ⟨xi, xk, xw⟩ (G.take (k + 1)) = (f1, yi)) := Lib.hid (by rw [FS.out]; unfold nbStep; simp [hb, he, h0])
                  have B3' := B3.set 1 (.int .i64 yi)
                  subst h0
                  clear B2' B4 B3
                  go_wp2_with fail
                  refine ⟨⟨k + 1, by omega, by go_num, kw.setB _ rfl, ?_⟩, by simp [intOf]; omega⟩
                  rw [FS'.out]; exact B3'
                · have FS' : Hid (nbFold ⟨xi, xk, xw⟩ (G.take (k + 1)) = (f1, f2)) := Lib.hid (by rw [FS.out]; unfold nbStep; simp [hb, he, h0])
                  have d0 : (f2 == 0) = false := by simpa using h0
                  have B3' := Lib.hid B3
                  clear B2' B4 B3
                  go_wp2_with fail
                  refine ⟨⟨k + 1, by omega, by go_num, kw, ?_⟩, by simp [intOf]; omega⟩
                  rw [FS'.out]; exact B3'.out
          · obtain rfl : k = G.length := by omega
            rw [List.take_length] at B3
            have B1' := B1.out.nxb h13 kw
            have kw' := k1.nx (Ex.refl _)
            have KK : Ex w wo := (Chg.trans k1 (Chg.mono kw (fun q (hq : q < w.heap.size) => ⟨Nat.lt_of_lt_of_le hq k1.size, by omega⟩)))
            obtain ⟨FF, hFF⟩ : ∃ FF, FF = nbFold ⟨xi, xk, xw⟩ G := ⟨_, rfl⟩
            rw [← hFF] at B3
            have HYES' : Hid (neighN l id h = (FF, true)) := Lib.hid (by rw [HYES.out, hFF])
            clear hFF HYES
            obtain ⟨f1, f2⟩ := FF
            have t0 := B3.cell 0 _ rfl
            have t1 := B3.cell 1 _ rfl
            have q0 := B1'.cell 0 _ rfl
            have q1 := B1'.cell 1 _ rfl
            have z0 := B1'.free 0
            have z1 := B1'.free 1
            clear B1' B3 hk hlt kw'
            have h13' : ¬ g = g3 := h13
            go_wp2_with fail
            refine bodyPost_ret (v := .tuple #[.agg #[.int .i64 f1, .int .i64 f2], .bool true]) (by simp [results, Tryz.results80, go_sem, *]) rfl ⟨by rw [HYES'.out], ?_⟩
            exact (KK.setNew (p := ⟨g, 0, none⟩) _ hgn).setNew (p := ⟨g, 1, none⟩) _ hgn
end Go.Proofs.YtbnbjiddffihoaaGreatDoor

/- Build of the reference. -/
namespace Go.Proofs.YtbnbjiddffihoaaGreatDoor
open Go.RowKit

abbrev Lkd := Int × List (Int × Int)
theorem OwnN.base {A β : Type} {encA : A → List Value} {s1 s2 : Nat} {encB : β → List Value} {e1 e2 : TypeId} {base base' : Nat} {w : World} {v : Value} {qs : List (A × Hdr)} {L : List (A × List β)}
    (h : OwnN encA s1 s2 encB e1 e2 base w v qs L) (hb : base' ≤ base) : OwnN encA s1 s2 encB e1 e2 base' w v qs L :=
  ⟨h.1.lower hb, h.2.1, fun j q c hq hc => ⟨(h.2.2.1 j q c hq hc).1, (h.2.2.1 j q c hq hc).2.base hb⟩, h.2.2.2⟩
end Go.Proofs.YtbnbjiddffihoaaGreatDoor

/- Lists of lists of numbers: ids of nodes, Lists of the package ideal. -/
namespace Go.Proofs.YtbnbjiddffihoaaGreatDoor
open Go.RowKit

theorem Tryz.infoI6 : (Tryz.prog.info? 3).map (fun i => (i.zero, i.size, i.bytes)) = some (some (.int .i64 0), 1, 8) := by kernel_rfl
def enc0 : Unit → List Value := fun _ => []
end Go.Proofs.YtbnbjiddffihoaaGreatDoor

/- The links that Build of the package ideal lays, in plain Lean: link by link from the lists, against the neighbours by their definition. -/
namespace Go.Proofs.YtbnbjiddffihoaaGreatDoor
open Go.RowKit

end Go.Proofs.YtbnbjiddffihoaaGreatDoor

/- A map from numbers to numbers that the call itself makes. -/
namespace Go.Proofs.YtbnbjiddffihoaaGreatDoor
open Go.RowKit

theorem Tryz.lawI : Go.Maps.Keyed Tryz.prog 3 := Go.Maps.int_keyed Tryz.underlying3
def MapI (w : World) (b n : Nat) (f : Int → Int) : Prop :=
  ∃ D : DataW Unit, w.ownsMap Tryz.prog 3 (plainElem Tryz.prog 3) b n D ∧ ∀ x : Int, D.atKey (.int .i64 x) (.lit (.int .i64 0)) = .lit (.int .i64 (f x))
theorem MapI.made (w : World) : MapI (w.alloc (.map #[] 0)) w.heap.size 0 (fun _ => 0) := ⟨.map [], World.ownsMap_made _ _ _ _, fun _ => rfl⟩
theorem wf_of {x : Int} (h : -9223372036854775808 ≤ x ∧ x ≤ 9223372036854775807) : (Lit.int .i64 x).wf = true := by
  exact WalkArith.wf_i64 h
theorem MapI.chg {w w' : World} {b n : Nat} {f : Int → Int} {S : Nat → Prop} (h : MapI w b n f) (k : Chg S w w') (hb : S b) : MapI w' b n f := by
  obtain ⟨D, ⟨es, clock, e1, F, e2, e3⟩, h2⟩ := h
  exact ⟨D, ⟨es, clock, (k.block b hb).trans e1, F, e2, e3⟩, h2⟩
theorem MapI.lt {w : World} {b n : Nat} {f : Int → Int} (h : MapI w b n f) : b < w.heap.size := by
  obtain ⟨D, h1, h2⟩ := h
  exact h1.lt
theorem MapI.nx {w w' : World} {b n : Nat} {f : Int → Int} (h : MapI w b n f) (k : Ex w w') : MapI w' b n f := h.chg k h.lt
theorem MapI.put {w : World} {b n : Nat} {f : Int → Int} (h : MapI w b n f) {x v : Int} (hx : -9223372036854775808 ≤ x ∧ x ≤ 9223372036854775807) (hv : -9223372036854775808 ≤ v ∧ v ≤ 9223372036854775807) (hn : n < maxLen) :
    ∃ w', (Instr.mapUpdate 108 (.map (some b)) (.int .i64 x) (.int .i64 v)).run Tryz.prog w = .ok () w' ∧ MapI w' b (n + 1) (fun y => if y = x then v else f y) ∧ Exb b w w' := by
  obtain ⟨D, h1, h2⟩ := h
  have hm : Go.Maps.IsMap D := by obtain ⟨_, _, _, _, _, e⟩ := h1; exact ⟨_, e⟩
  obtain ⟨w', hrun, h3, h4⟩ := h1.update (t := 108) Tryz.lawI Tryz.underlying108 hn (Go.Maps.keyOf_int_mk Tryz.underlying3 (wf_of hx)) (plainElem_int Tryz.underlying3 (wf_of hv))
  refine ⟨w', hrun, ⟨_, h3, fun y => ?_⟩, ⟨h4.1, h4.2, h4.3, h4.4, fun i hi => h4.5 i hi.1 (fun e => hi.2 (Option.some.inj e))⟩⟩
  by_cases hy : y = x
  · subst hy
    show _ = DataW.lit (.int .i64 (if y = y then v else f y))
    rw [if_pos rfl]
    exact Go.Maps.atKey_put_same hm (show Go.WideAt.IsKeyLit (.int .i64 y) from trivial) _ _
  · show _ = DataW.lit (.int .i64 (if y = x then v else f y))
    rw [if_neg hy, Go.Maps.atKey_put_other (fun e => hy (by cases e; rfl))]
    exact h2 y
end Go.Proofs.YtbnbjiddffihoaaGreatDoor

/- Walks over the tape of numbers from which the statements draw. -/
namespace Go.Proofs.YtbnbjiddffihoaaGreatDoor
open Go.RowKit

set_option maxHeartbeats 400000 in
theorem mod_any (v n : Int) (w : World) (hn : 1 ≤ n) (hn2 : n ≤ 9223372036854775807) :
    Calls Tryz.prog 31 #[.int .i64 v, .int .i64 n] w fun e w' => e = .returned (.int .i64 (v % n)) ∧ w = w' := by
  obtain ⟨h1, h2⟩ := tmod_bounds v n hn
  have H3 := Lib.hid (emod_of_tmod v n hn)
  go_enter Tryz.func31, Tryz.ntmps31
  go_wp2
  · go_ret
    exact ⟨by rw [H3.out, if_pos ‹_›]; rfl, rfl⟩
  · go_ret
    exact ⟨by rw [H3.out, if_neg (by omega)]; rfl, rfl⟩

set_option maxHeartbeats 400000 in
theorem next_end (b len cap i : Nat) (n : Int) (a : Option Addr) (w : World) (hb : w.heap[b]? = some (.cells #[.slice a len cap, .int .i64 i] 52 (0, 0))) (hi : len ≤ i) (hn : ¬ n < 1) :
    Calls Tryz.prog 9 #[.pointer (some ⟨b, 0, none⟩), .int .i64 n] w fun e w' => e = .returned (.int .i64 0) ∧ ∃ m, w.drewN m = w' := by
  have c0 : w.cell? ⟨b, 0, none⟩ = some (.slice a len cap) := by simp [World.cell?, hb]
  have c1 : w.cell? ⟨b, 1, none⟩ = some (.int .i64 i) := by simp [World.cell?, hb]
  have d1 : decide (n < 1) = false := by simp; omega
  clear hb
  go_enter Tryz.func9, Tryz.ntmps9
  go_wp2
  go_quiet (fail)
  go_wp2
  go_ret
  exact ⟨rfl, _, rfl⟩

set_option maxHeartbeats 400000 in
theorem next_small (b : Nat) (n : Int) (w : World) (hn : n < 1) :
    Calls Tryz.prog 9 #[.pointer (some ⟨b, 0, none⟩), .int .i64 n] w fun e w' => e = .returned (.int .i64 0) ∧ ∃ m, w.drewN m = w' := by
  have d1 : decide (n < 1) = true := by simp; omega
  go_enter Tryz.func9, Tryz.ntmps9
  go_wp2
  go_quiet (fail)
  go_wp2
  go_ret
  exact ⟨rfl, _, rfl⟩

set_option maxHeartbeats 400000 in
theorem next_go (b len cap i x o : Nat) (n v : Int) (w : World) (hb : w.heap[b]? = some (.cells #[.slice (some ⟨x, o, none⟩) len cap, .int .i64 i] 52 (0, 0))) (hi : i < len) (hl : len ≤ 600) (hn : ¬ n < 1) (hn2 : n ≤ 9223372036854775807)
    (hx : x ≠ b) (hc : w.cell? ⟨x, o + i, none⟩ = some (.int .i64 v)) :
    Calls Tryz.prog 9 #[.pointer (some ⟨b, 0, none⟩), .int .i64 n] w fun e w' => e = .returned (.int .i64 (v % n)) ∧ ∃ m k, ((w.drewN k).setCell ⟨b, 1, none⟩ (.int .i64 (i + 1))).drewN m = w' := by
  have c0 : w.cell? ⟨b, 0, none⟩ = some (.slice (some ⟨x, o, none⟩) len cap) := by simp [World.cell?, hb]
  have c1 : w.cell? ⟨b, 1, none⟩ = some (.int .i64 i) := by simp [World.cell?, hb]
  have f1 : w.frozen? ⟨b, 1, none⟩ = false := by simp [World.frozen?, hb]
  have d1 : decide (n < 1) = false := by simp; omega
  have e1 : IntKind.i64.wrap (i : Int) = i := IntWalk.i64_in _ (by omega)
  have e2 : IntKind.i64.wrap ((i : Int) + 1) = (i : Int) + 1 := IntWalk.i64_in _ (by omega)
  clear hb
  go_enter Tryz.func9, Tryz.ntmps9
  go_wp2
  go_quiet (fail)
  go_wp2
  go_quiet ((go_at_call 31; exact quiet_of_eq (mod_any _ _ _ (by omega) (by omega))))
  go_wp2
  go_ret
  exact ⟨rfl, _, _, rfl⟩

theorem next_x {B b : Nat} (n : Int) (w : World) (h : TP 52 B w b) (hn2 : n ≤ 9223372036854775807) :
    Calls Tryz.prog 9 #[.pointer (some ⟨b, 0, none⟩), .int .i64 n] w (SomeInt 0 (if n < 1 then 0 else n - 1) 52 B b w) := by
  by_cases hn : n < 1
  · refine (next_small b n w hn).mono ?_
    rintro e w' ⟨rfl, m, rfl⟩
    exact ⟨0, rfl, by omega, by rw [if_pos hn]; omega, (Chg.refl _ _).drewN _, h⟩
  · obtain ⟨a, cap, i, x, o, l, h1, h2, h3, h4, h5⟩ := id h
    by_cases hi : i < l.length
    · rcases h5 with rfl | ⟨rfl, e2, e3, e4⟩
      · simp at hi
      · refine (next_go b _ cap i x o n _ w h1 hi h3 hn hn2 e2 (e4 i hi)).mono ?_
        rintro e w' ⟨rfl, m, k, rfl⟩
        refine ⟨_, rfl, Int.emod_nonneg _ (by omega), ?_, ?_, ?_⟩
        · rw [if_neg hn]; have := Int.emod_lt_of_pos (l.getD i 0) (show 0 < n by omega); omega
        · exact (((Chg.refl _ _).drewN _).setCell _ (fun k hk => hk.2)).drewN _
        · refine ⟨_, cap, i + 1, x, o, l, ?_, h2, h3, by omega, .inr ⟨rfl, e2, e3, fun j hj => ?_⟩⟩
          · show (w.setCell ⟨b, 1, none⟩ (.int .i64 (i + 1))).heap[b]? = _
            simp [World.setCell, Array.getElem?_modify, h1]
          · show (w.setCell ⟨b, 1, none⟩ (.int .i64 (i + 1))).cell? _ = _
            rw [World.cell?_of_block (w := w) (Below.heap_setCell w _ _ _ e2)]
            exact e4 j hj
    · refine (next_end b _ cap i n a w h1 (by omega) hn).mono ?_
      rintro e w' ⟨rfl, m, rfl⟩
      exact ⟨0, rfl, by omega, by rw [if_neg hn]; omega, (Chg.refl _ _).drewN _, h⟩

theorem pick_x {B b s so len : Nat} (lo hi : Int) (l : List Int) (w : World) (h : TP 52 B w b) (hB : B ≤ s) (hs : s < w.heap.size) (hl : l.length = len) (hl0 : 0 < len) (hl2 : len ≤ 100)
    (hc : ∀ j, j < len → w.cell? ⟨s, so + j, none⟩ = some (.int .i64 (l.getD j 0))) (hr : ∀ x ∈ l, lo ≤ x ∧ x ≤ hi) :
    Calls Tryz.prog 17 #[.pointer (some ⟨b, 0, none⟩), .slice (some ⟨s, so, none⟩) len len] w (SomeInt lo hi 52 B b w) := by
  have hlt := h.lt
  go_enter Tryz.func17, Tryz.ntmps17
  go_wp2_with fail
  refine (next_x _ w h (by omega)).mono ?_
  rintro e w1 ⟨r, rfl, r0, r1, k1, t1⟩
  rw [if_neg (by omega)] at r1
  obtain ⟨j, rfl⟩ := Int.eq_ofNat_of_zero_le r0
  have hj : j < len := by omega
  have hc1 : w1.cell? ⟨s, so + j, none⟩ = some (.int .i64 (l.getD j 0)) := k1.cellv (hc j hj) ⟨hs, by simp; omega⟩
  have hm : l.getD j 0 ∈ l := by simp [List.getD, hl, hj]
  have hr1 := hr _ hm
  clear hc hr hl hm
  go_wp2
  go_ret
  exact ⟨_, rfl, hr1.1, hr1.2, k1, t1⟩


theorem pick_lit {B b n s : Nat} (lo hi : Int) (l : List Int) {A : Array Value} {W0 : World} (h : TP 52 B W0 b) (hB : B ≤ W0.heap.size) (hs : s = W0.heap.size) (hA : A = (l.map (Value.int .i64)).toArray) (hl : l.length = n) (hl0 : 0 < n) (hl2 : n ≤ 100)
    (hr : ∀ x ∈ l, lo ≤ x ∧ x ≤ hi) :
    Calls Tryz.prog 17 #[.pointer (some ⟨b, 0, none⟩), .slice (some ⟨s, 0, none⟩) n n] (W0.alloc (.cells A 3)) (SomeInt lo hi 52 B b W0) := by
  subst hA hs
  have hc := (Chg.refl (· < W0.heap.size) W0).alloc (.cells (l.map (Value.int .i64)).toArray 3) (fun k hk => hk)
  refine (pick_x (s := W0.heap.size) (so := 0) lo hi l _ (h.chg hc (by omega)) hB (by simp) hl hl0 hl2 ?_ hr).mono ?_
  · intro j hj
    simp [List.getD, hl, hj]
  · rintro e w' ⟨r, rfl, r0, r1, k1, t1⟩
    exact ⟨r, rfl, r0, r1, (hc.mono (fun k hk => hk.1)).trans (k1.mono (by simp; intro k h1 h2; omega)), t1⟩


def NewTape (w : World) (e : Ending) (w' : World) : Prop :=
  e = .returned (.pointer (some ⟨w.heap.size, 0, none⟩)) ∧ TP 52 (w.heap.size + 1) w' w.heap.size ∧ Chg (· < w.heap.size) w w'

theorem tape_made {S : Nat → Prop} {n cap m : Nat} {a : Option Addr} {l : List Int} {w : World} (h : Rd 1 encI S w a n l) (hS : ∀ k, S k → k < w.heap.size) (hm : m ≤ n) (hm2 : m ≤ 600) :
    TP 52 (w.heap.size + 1) (w.alloc (.cells #[.slice a m cap, .int .i64 0] 52)) w.heap.size := by
  have hl : (l.take m).length = m := by have := h.1; simp; omega
  rcases Nat.eq_zero_or_pos m with h0 | h0
  · subst h0
    exact ⟨a, cap, 0, 0, 0, [], by simpa using heap_new w _, by omega, by simp, by simp, .inl rfl⟩
  · obtain ⟨x, o, y, rfl, hx, _, _⟩ := h.at (j := 0) (by omega)
    have hx := hS x hx
    refine ⟨_, cap, 0, x, o, l.take m, by rw [hl]; exact heap_new w _, by omega, by omega, by omega, .inr ⟨rfl, by omega, by omega, fun j hj => ?_⟩⟩
    have hj : j < m := by omega
    obtain ⟨x', o', y', e1, _, e3, e4⟩ := h.at (j := j) (by omega)
    cases e1
    have e5 := e4 0 _ rfl
    have e6 : (l.take m).getD j 0 = y' := by simp [List.getD, List.getElem?_take, hj, e3]
    rw [e6]
    rw [World.cell?_of_block (w := w) (Below.heap_alloc w _ _ (by simp; omega))]
    simpa using e5

set_option maxHeartbeats 400000 in
theorem new_x {S : Nat → Prop} (a : Option Addr) (n cap : Nat) (l : List Int) (w : World) (h : Rd 1 encI S w a n l) (hS : ∀ k, S k → k < w.heap.size) (hn : n ≤ cap) (hcap : cap ≤ maxLen) :
    Calls Tryz.prog 7 #[.slice a n cap] w (NewTape w) := by
  unfold maxLen at hcap
  by_cases h6 : 600 < n
  · have hm := tape_made (cap := cap) (m := 600) h hS (by omega) (by omega)
    go_enter Tryz.func7, Tryz.ntmps7
    go_wp2
    go_ret
    exact ⟨rfl, hm, (Chg.refl _ _).alloc _ (by simp)⟩
  · have hm := tape_made (cap := cap) (m := n) h hS (by omega) (by omega)
    go_enter Tryz.func7, Tryz.ntmps7
    go_wp2
    go_ret
    exact ⟨rfl, hm, (Chg.refl _ _).alloc _ (by simp)⟩
end Go.Proofs.YtbnbjiddffihoaaGreatDoor

/- The tape, in the standard forms. -/
namespace Go.Proofs.YtbnbjiddffihoaaGreatDoor
open Go.RowKit

def TK (w : World) (b : Nat) : Prop := TP 52 (b + 1) w b
theorem TK.lt {w : World} {b : Nat} (h : TK w b) : b < w.heap.size := by
  obtain ⟨_, _, _, _, _, _, h1, _⟩ := h
  exact heap_lt h1
theorem TK.nx {w w' : World} {b : Nat} (h : TK w b) (k : Ex w w') : TK w' b := TP.chg h k (fun x hx => Nat.lt_of_lt_of_le hx h.lt)
theorem TK.set {w : World} {b : Nat} (h : TK w b) {p : Addr} (v : Value) (hp : b < p.block) : TK (w.setCell p v) b :=
  TP.chg h ((Chg.refl (· < b + 1) w).setCell v (fun k (hk : k < b + 1) => by omega)) (fun _ hk => hk)
def NumPost (n : Int) (b : Nat) (w : World) (e : Ending) (w' : World) : Prop :=
  ∃ r : Int, e = .returned (.int .i64 r) ∧ 0 ≤ r ∧ r ≤ n ∧ TK w' b ∧ Exb b w w'
theorem next_t {b : Nat} (n : Int) (w : World) (h : TK w b) (h1 : 1 ≤ n) (h2 : n ≤ 9223372036854775807) :
    Calls Tryz.prog 9 #[.pointer (some ⟨b, 0, none⟩), .int .i64 n] w (NumPost (n - 1) b w) := by
  refine (next_x n w h h2).mono ?_
  rintro e w' ⟨r, rfl, r0, r1, k, t⟩
  rw [if_neg (by omega)] at r1
  exact ⟨r, rfl, r0, r1, t, k⟩
theorem pick_t {b n s : Nat} (lo hi : Int) (l : List Int) {A : Array Value} {w : World} (h : TK w b) (hs : s = w.heap.size) (hA : A = (l.map (Value.int .i64)).toArray) (hl : l.length = n) (hl0 : 0 < n) (hl2 : n ≤ 100)
    (hr : ∀ x ∈ l, lo ≤ x ∧ x ≤ hi) :
    Calls Tryz.prog 17 #[.pointer (some ⟨b, 0, none⟩), .slice (some ⟨s, 0, none⟩) n n] (w.alloc (.cells A 3)) fun e w' =>
      ∃ r : Int, e = .returned (.int .i64 r) ∧ lo ≤ r ∧ r ≤ hi ∧ TK w' b ∧ Exb b w w' := by
  refine (pick_lit lo hi l h h.lt hs hA hl hl0 hl2 hr).mono ?_
  rintro e w' ⟨r, rfl, r0, r1, k, t⟩
  exact ⟨r, rfl, r0, r1, t, k⟩
theorem new_t (a : Option Addr) (n cap : Nat) (l : List Int) (w : World) (h : Sl 1 encI w a n l) (hn : n ≤ cap) (hcap : cap ≤ maxLen) :
    Calls Tryz.prog 7 #[.slice a n cap] w fun e w' => e = .returned (.pointer (some ⟨w.heap.size, 0, none⟩)) ∧ TK w' w.heap.size ∧ Ex w w' ∧ w.heap.size < w'.heap.size := by
  refine (new_x a n cap l w h (fun _ hk => hk) hn hcap).mono ?_
  rintro e w' ⟨rfl, t, k⟩
  have hlt : w.heap.size < w'.heap.size := by
    obtain ⟨_, _, _, _, _, _, h1, _⟩ := t
    exact heap_lt h1
  exact ⟨rfl, t, k, hlt⟩
end Go.Proofs.YtbnbjiddffihoaaGreatDoor

/- Keys of the tape. -/
namespace Go.Proofs.YtbnbjiddffihoaaGreatDoor
open Go.RowKit

def LetG (w : World) : Prop := ∀ j, j < 6 → ∃ s : ByteArray, s.size = 1 ∧ w.cell? ⟨0, j, none⟩ = some (.string s)
theorem LetG.lt {w : World} (h : LetG w) : 0 < w.heap.size := by
  obtain ⟨s, _, h⟩ := h 0 (by omega)
  exact World.block_lt_of_cell? w _ h
theorem LetG.nx {w w' : World} (h : LetG w) (k : Ex w w') : LetG w' := fun j hj => by
  obtain ⟨s, h1, h2⟩ := h j hj
  exact ⟨s, h1, Chg.cellv k h2 (World.block_lt_of_cell? w _ h2)⟩
theorem LetG.nxb {b : Nat} {w w' : World} (h : LetG w) (hb : ¬ 0 = b) (k : Exb b w w') : LetG w' := fun j hj => by
  obtain ⟨s, h1, h2⟩ := h j hj
  exact ⟨s, h1, Chg.cellv k h2 ⟨World.block_lt_of_cell? w _ h2, hb⟩⟩

def LongRel (k0 : Nat) (o i : Value) : Prop := ∃ (k : Nat) (s : ByteArray), k ≤ k0 ∧ i = .int .i64 k ∧ o = .string s ∧ s.size = k
set_option maxHeartbeats 400000 in
theorem long_x (s : ByteArray) (n : Nat) (w : World) (hs : s.size = 1) (hn : n ≤ 1000) :
    Calls Tryz.prog 66 #[.string s, .int .i64 n] w fun e w' => (∃ r : ByteArray, e = .returned (.string r) ∧ r.size = n) ∧ w = w' := by
  have HS := Lib.hid hs
  have hs1 : s.size ≤ 1 := Nat.le_of_eq hs
  clear hs
  go_enter Tryz.func66, Tryz.ntmps66
  go_wp2
  go_loop [5, 6] (fun o i => LongRel n o i) (fun _ i => n - (intOf i).toNat)
  case atStart => exact ⟨0, ⟨#[]⟩, by omega, rfl, rfl, rfl⟩
  case round =>
    obtain ⟨k, o, hk, rfl, rfl, ho⟩ := hrel
    have HO := Lib.hid ho
    have ho1 : o.size ≤ 1000 := by omega
    clear ho
    by_cases hlt : k < n
    · go_wp2
      go_round
      case rel => exact ⟨k + 1, _, by omega, by go_num, rfl, by rw [ByteArray.size_append, HO.out, HS.out]⟩
      case measure => simp [intOf]; omega
    · go_wp2
      go_ret
      exact ⟨⟨o, rfl, by rw [HO.out]; omega⟩, rfl⟩

def KeyPost (m b : Nat) (w : World) (e : Ending) (w' : World) : Prop := ∃ s : ByteArray, e = .returned (.string s) ∧ s.size ≤ m ∧ TK w' b ∧ Exb b w w'
def KeyRel (b : Nat) (w : World) (o i : Value) (wr : World) : Prop := ∃ (k : Nat) (s : ByteArray), k ≤ 3 ∧ i = .int .i64 k ∧ o = .string s ∧ s.size + k ≤ 3 ∧ TK wr b ∧ Exb b w wr

set_option maxHeartbeats 1000000 in
theorem key_t {b : Nat} (w : World) (h : TK w b) (hL : LetG w) (hgb : ¬ 0 = b) : Calls Tryz.prog 28 #[.pointer (some ⟨b, 0, none⟩)] w (KeyPost 64 b w) := by
  go_enter Tryz.func28, Tryz.ntmps28
  go_wp2_with fail
  refine (next_t 12 _ h (by omega) (by omega)).mono ?_
  rintro e w1 ⟨r, rfl, r0, r1, T, k1⟩
  have L1 := hL.nxb hgb k1
  clear h hL
  by_cases h10 : r = 10
  · subst h10
    go_wp2_with fail
    refine (next_t 6 _ T (by omega) (by omega)).mono ?_
    clear T
    rintro e w2 ⟨j, rfl, j0, j1, T, k2⟩
    obtain ⟨j, rfl⟩ := Int.eq_ofNat_of_zero_le j0
    obtain ⟨s, hs, hc⟩ := (L1.nxb hgb k2) j (by omega)
    have kk := k1.nxb k2
    have HS := Lib.hid hs
    clear hs k1 k2 L1
    go_wp2_with fail
    refine (long_x s 64 _ HS.out (by omega)).mono ?_
    rintro e w3 ⟨⟨r, rfl, hr⟩, rfl⟩
    have HR := Lib.hid hr
    clear hr
    go_wp2_with fail
    go_ret
    exact ⟨r, rfl, Nat.le_of_eq HR.out, T, kk⟩
  · have d10 : (r == 10) = false := by simp [h10]
    by_cases h11 : r = 11
    · subst h11
      clear h10
      go_wp2_with fail
      go_ret
      exact ⟨⟨#[]⟩, rfl, by simp [ByteArray.size], T, k1⟩
    · have d11 : (r == 11) = false := by simp [h11]
      clear h10 h11
      go_wp2_with fail
      refine (next_t 3 _ T (by omega) (by omega)).mono ?_
      clear T
      rintro e w2 ⟨m, rfl, m0, m1, T, k2⟩
      obtain ⟨m, rfl⟩ := Int.eq_ofNat_of_zero_le m0
      have L2 := L1.nxb hgb k2
      have kk := k1.nxb k2
      clear k1 k2 L1
      go_wp2_with fail
      go_loopw [3, 4] (fun o i wr => KeyRel b w2 o i wr) (fun _ i _ => (intOf i).toNat)
      case atStart => exact ⟨m + 1, ⟨#[]⟩, by omega, congrArg (Value.int .i64) (by omega), rfl, by show 0 + (m + 1) ≤ 3; omega, T, Exb.refl _ _⟩
      case round =>
        clear T
        obtain ⟨k, o, hk, rfl, rfl, ho, T, kw⟩ := hrel
        obtain ⟨wo, rfl⟩ : ∃ wo : World, wo = wr := ⟨_, rfl⟩
        have ho1 : o.size ≤ 3 := by omega
        by_cases hk0 : 0 < k
        · go_wp2_with fail
          refine (next_t 6 _ T (by omega) (by omega)).mono ?_
          clear T
          rintro e w4 ⟨j, rfl, j0, j1, T, k4⟩
          obtain ⟨j, rfl⟩ := Int.eq_ofNat_of_zero_le j0
          obtain ⟨s, hs, hc⟩ := ((L2.nxb hgb kw).nxb hgb k4) j (by omega)
          replace kw := kw.nxb k4
          have HS := Lib.hid hs
          have hs1 : s.size ≤ 1 := Nat.le_of_eq hs
          clear hs k4 L2
          go_wp2_with fail
          refine ⟨⟨k - 1, o ++ s, by omega, ?_, rfl, by rw [ByteArray.size_append, HS.out]; omega, T, kw⟩, by simp [intOf]; omega⟩
          rw [show ((k - 1 : Nat) : Int) = (k : Int) - 1 by omega]
        · clear L2
          go_wp2_with fail
          go_ret
          exact ⟨o, rfl, by omega, T, kk.nxb kw⟩
end Go.Proofs.YtbnbjiddffihoaaGreatDoor

/- A walk over the words that are drawn from a tape. -/
namespace Go.Proofs.YtbnbjiddffihoaaGreatDoor
open Go.RowKit

def SomeWord (ty B b : Nat) (w : World) (e : Ending) (w' : World) : Prop :=
  ∃ r : Nat, e = .returned (.int .u32 r) ∧ r < 65536 ∧ Chg (fun k => k < w.heap.size ∧ k ≠ b) w w' ∧ TP ty B w' b

theorem conv_u32 (r : Int) (h0 : 0 ≤ r) (h1 : r < 65536) : ∃ m : Nat, r = m ∧ m < 65536 ∧ IntKind.u32.wrap r = (m : Int) := by
  obtain ⟨m, rfl⟩ := Int.eq_ofNat_of_zero_le h0
  refine ⟨m, rfl, by omega, ?_⟩
  simp [IntKind.wrap, IntKind.signed, IntKind.bits]
  omega

set_option maxHeartbeats 1000000 in
theorem word_x {B b : Nat} (w : World) (h : TP 52 B w b) (hB : B ≤ w.heap.size) :
    Calls Tryz.prog 29 #[.pointer (some ⟨b, 0, none⟩)] w (SomeWord 52 B b w) := by
  go_enter Tryz.func29, Tryz.ntmps29
  go_wp2_with fail
  refine (next_x _ w h (by omega)).mono ?_
  rintro e w1 ⟨r, rfl, r0, r1, k1, t1⟩
  have z1 := k1.size
  by_cases e4 : r = 4
  · subst e4
    go_wp2_with fail
    refine (next_x _ _ t1 (by omega)).mono ?_
    rintro e w2 ⟨s, rfl, s0, s1, k2, t2⟩
    rw [if_neg (by omega)] at s1
    obtain ⟨m, rfl, hm, hw⟩ := conv_u32 s s0 (by omega)
    go_wp2_with fail
    go_ret
    exact ⟨m, rfl, hm, k1.then k2 (by intro k hk; omega), t2⟩
  · have d4 : (r == 4) = false := by simp [e4]
    by_cases e5 : r = 5
    · subst e5
      go_wp2_with fail
      refine (pick_lit 0 65535 [0, 65535, 32768] t1 (by omega) (by simp) (by rfl) (by rfl) (by omega) (by omega) (by simp)).mono ?_
      rintro e w2 ⟨s, rfl, s0, s1, k2, t2⟩
      obtain ⟨m, rfl, hm, hw⟩ := conv_u32 s s0 (by omega)
      go_wp2_with fail
      go_ret
      exact ⟨m, rfl, hm, k1.then k2 (by intro k hk; omega), t2⟩
    · have d5 : (r == 5) = false := by simp [e5]
      clear e4 e5
      go_wp2_with fail
      refine (next_x _ _ t1 (by omega)).mono ?_
      rintro e w2 ⟨s, rfl, s0, s1, k2, t2⟩
      rw [if_neg (by omega)] at s1
      obtain ⟨m, rfl, hm, hw⟩ := conv_u32 s s0 (by omega)
      go_wp2_with fail
      go_ret
      exact ⟨m, rfl, hm, k1.then k2 (by intro k hk; omega), t2⟩
end Go.Proofs.YtbnbjiddffihoaaGreatDoor

/- Rosters of the tape. -/
namespace Go.Proofs.YtbnbjiddffihoaaGreatDoor
open Go.RowKit

theorem word_t {b : Nat} (w : World) (h : TK w b) : Calls Tryz.prog 29 #[.pointer (some ⟨b, 0, none⟩)] w fun e w' => ∃ m : Nat, e = .returned (.int .u32 m) ∧ m < 65536 ∧ TK w' b ∧ Exb b w w' :=
  (word_x w h h.lt).mono fun e w' ⟨m, he, hm, k, t⟩ => ⟨m, he, hm, t, k⟩

structure RosterOf (n b : Nat) (w w' : World) (v : Value) (L : List Nd) : Prop where
  own : OwnL 3 encN 57 w.heap.size w' v L
  len : L.length ≤ n
  ok : checkN L = 0
  word : ∀ x ∈ L, x.word < 65536
  tape : TK w' b
  k : Exb b w w'
def RosRel (n b : Nat) (w : World) (o i : Value) (wr : World) : Prop := ∃ (k : Nat) (L : List Nd), L.length + k ≤ n ∧ i = .int .i64 k ∧ RosterOf n b w wr o L

set_option maxRecDepth 100000 in
set_option maxHeartbeats 2000000 in
theorem roster_t {b : Nat} (n : Nat) (w : World) (h : TK w b) (hL : LetG w) (hgb : ¬ 0 = b) (hn0 : 1 ≤ n) (hn : n ≤ 60) :
    Calls Tryz.prog 8 #[.pointer (some ⟨b, 0, none⟩), .int .i64 n] w fun e w' => ∃ v L, e = .returned v ∧ RosterOf n b w w' v L := by
  have hbw := h.lt
  go_enter Tryz.func8, Tryz.ntmps8
  go_wp2_with fail
  refine (next_t ((n : Int) + 1) _ h (by omega) (by omega)).mono ?_
  clear h
  rintro e w1 ⟨k, rfl, k0, k1, T, kk⟩
  obtain ⟨k, rfl⟩ := Int.eq_ofNat_of_zero_le k0
  go_wp2_with fail
  go_loopw [5, 6] (fun o i wr => RosRel n b w o i wr) (fun _ i _ => (intOf i).toNat)
  case atStart => exact ⟨k, [], by simp; omega, rfl, OwnL.nil _ _ _ _ _, by simp, by decide, by simp, T, kk⟩
  case round =>
    clear T kk
    obtain ⟨q, L, hq, rfl, R⟩ := hrel
    obtain ⟨wo, rfl⟩ : ∃ wo : World, wo = wr := ⟨_, rfl⟩
    have T := R.tape
    by_cases hq0 : 0 < q
    · have L1 := hL.nxb hgb R.k
      clear hL
      have R := Lib.hid R
      go_wp2_with fail
      refine (next_t (3 * (n : Int)) _ T (by omega) (by omega)).mono ?_
      clear T
      rintro e w2 ⟨d, rfl, d0, d1, T, k2⟩
      have L2 := L1.nxb hgb k2
      clear L1
      go_wp2_with fail
      refine (key_t _ T L2 hgb).mono ?_
      clear T
      rintro e w3 ⟨s, rfl, hs, T, k3⟩
      replace k2 := k2.nxb k3
      clear L2 k3
      go_wp2_with fail
      refine (word_t _ T).mono ?_
      clear T
      rintro e w4 ⟨m, rfl, hm, T, k4⟩
      replace k2 := k2.nxb k4
      clear k4
      have B4 := Blk.new w4 [.int .i64 (1 + d), .string s, .int .u32 m] 57
      have e4 := Ex.new w4 (.cells #[.int .i64 (1 + d), .string s, .int .u32 m] 57)
      obtain ⟨w5, hw5⟩ : ∃ w5, w5 = w4.alloc (.cells #[.int .i64 (1 + d), .string s, .int .u32 m] 57) := ⟨_, rfl⟩
      obtain ⟨g, hg⟩ : ∃ g, g = w4.heap.size := ⟨_, rfl⟩
      have B4 : Blk w5 g [.int .i64 (1 + d), .string s, .int .u32 m] 57 := by rw [hw5, hg]; exact B4
      rw [← hw5] at e4
      replace T := T.nx e4
      replace k2 := k2.nxb (e4.b b)
      have HW := Lib.hid hw5
      have HG := Lib.hid hg
      clear hw5 hg e4
      go_wp2_with fail
      rw [← HG.out, ← HW.out]
      have own5 := R.out.own.nxb hbw k2
      obtain ⟨A5, C5, rfl, s5, o5, m5, nil5⟩ := own5.slf (fun _ => rfl)
      have lenL : L.length ≤ 60 := by omega
      have NIL := Lib.hid nil5
      have O5 := Lib.hid own5
      have S5 : Sl 3 encN w5 A5 L.length L := s5.sl
      clear s5 nil5 own5
      obtain ⟨X, hX⟩ : ∃ X : Nd, X = ⟨1 + d, s, m⟩ := ⟨_, rfl⟩
      have SXF : ∀ cur, Ex w5 cur → Sl 3 encN (cur.alloc (.cells #[.int .i64 (1 + d), .string s, .int .u32 m] 57)) (some ⟨cur.heap.size, 0, none⟩) 1 [X] := fun cur _ => by rw [hX]; exact Sl.lit _ rfl rfl (fun _ => rfl) rfl
      have OWN0 : ∀ cur, Ex w5 cur → OwnL 3 encN 57 w5.heap.size cur (.slice none 0 0) [] := fun _ _ => OwnL.nil _ _ _ _ _
      have HX := Lib.hid hX
      have S5F := fun cur (h : Ex w5 cur) => S5.nx h
      have hX3 : m < 65536 := hm
      clear hX S5 hm d0 d1 hs
      refine wp_region_held_drew (S := Ex w5) (by kernel_rfl) ((Ex.refl w5).drew) (fun hHeld => ?_)
      refine wpAnyH_take (i := 0) (oi := ⟨some 26, .move (.tmp 5), 23, "tape.go:132", #[], none⟩) (v := ?_) rfl (by kernel_rfl) (by kernel_rfl) (by kernel_rfl) (fun _ _ _ h => h) (Or.inl ⟨by rfl, ?hyr1x0q1⟩) (by assumption) ?restr1x0q1
      case hyr1x0q1 => intro wq hSw; (go_simp); (try with_reducible rfl)
      try simp only [Act.put, List.setIfInBounds_toArray, List.set_cons_zero, List.set_cons_succ]
      refine wpAnyH_take (i := 2) (oi := ⟨some 28, .load 57 (.tmp 7), 57, "tape.go:132", #[], none⟩) (v := ?_) rfl (by kernel_rfl) (by kernel_rfl) (by kernel_rfl) (fun _ _ _ h => h) (Or.inl ⟨by rfl, ?hyr1x2q4⟩) (by assumption) ?restr1x2q4
      case hyr1x2q4 => intro wq hSw; (have cq := (B4.nx hSw).cell 0 _ rfl; have cq1 := (B4.nx hSw).cell 1 _ rfl; have cq2 := (B4.nx hSw).cell 2 _ rfl; go_simp); (try with_reducible rfl)
      try simp only [Act.put, List.setIfInBounds_toArray, List.set_cons_zero, List.set_cons_succ]
      refine wpAnyH_ready (rs := [1, 3]) (by kernel_rfl) (by simp) ?_
      refine AllReadyH.cons (o := ⟨some 27, .call { callee := .builtin .append, args := #[.const (.slice none 0 0), .tmp 26], argTypes := #[23, 23] }, 23, "tape.go:132", #[⟨0, .data⟩], none⟩) rfl (fun K hK => ?_) ?_
      · rw [if_pos (by rfl)]
        have own0 := OWN0 _ hHeld
        have s0 := S5F _ hHeld
        have z0 := Ex.size hHeld
        refine wp_append_rd (enc := encN) _ (.const (.slice none 0 0)) (.tmp 26) 23 rfl w5.heap.size 57 (.agg #[.int .i64 0, .string ByteArray.empty, .int .u32 0]) 3 32 Tryz.underlying23 Tryz.infoN rfl (by omega) (by omega) _ [] own0 rfl _ A5 L.length C5 L s0 NIL.out (fun _ => rfl) (by simp [encN, Value.oneCell']) rfl (by simp) (by omega) z0 ?_
        intro v6 w6 own6 ch0 ch1
        have j6 : Ex w5 w6 := Chg.trans hHeld ch1
        (try replace SX := SX.nx (Chg.mono ch0 (fun k hk => ⟨hk, by simp [Value.ownBlock]⟩)))
        clear own0 s0 z0 ch0 ch1
        refine hK.out _ _ (j6) (fun hHeld => ?_)
        clear hK K
        try simp only [Act.put, List.setIfInBounds_toArray, List.set_cons_zero, List.set_cons_succ]
        refine wpAnyH_ready (rs := [3]) (by kernel_rfl) (by simp) ?_
        refine AllReadyH.cons (o := ⟨some 29, .buildSlice 23 1 #[(0, .tmp 28)], 23, "tape.go:132", #[⟨2, .data⟩], none⟩) rfl (fun K hK => ?_) AllReadyH.nil
        go_simp
        have SX := SXF _ hHeld
        have j6 := hHeld.alloc (.cells #[.int .i64 (1 + d), .string s, .int .u32 m] 57)
        (try replace own6 := own6.alloc (.cells #[.int .i64 (1 + d), .string s, .int .u32 m] 57))
        refine hK.out _ _ (j6) (fun hHeld => ?_)
        clear hK K
        try simp only [Act.put, List.setIfInBounds_toArray, List.set_cons_zero, List.set_cons_succ]
        refine wpAnyH_ready (rs := [4]) (by kernel_rfl) (by simp) ?_
        refine AllReadyH.cons (o := ⟨some 30, .call { callee := .builtin .append, args := #[.tmp 27, .tmp 29], argTypes := #[23, 23] }, 23, "tape.go:132", #[⟨1, .data⟩, ⟨3, .data⟩, ⟨1, .chain⟩], none⟩) rfl (fun K hK => ?_) AllReadyH.nil
        rw [if_pos (by rfl)]
        have z0 := Ex.size hHeld
        refine wp_append_rd (enc := encN) _ (.tmp 27) (.tmp 29) 23 rfl w5.heap.size 57 (.agg #[.int .i64 0, .string ByteArray.empty, .int .u32 0]) 3 32 Tryz.underlying23 Tryz.infoN rfl (by omega) (by omega) _ ([] ++ L) own6 rfl _ _ 1 1 [X] SX (fun h => by cases h) (fun _ => rfl) (by simp [encN, Value.oneCell']) rfl (by rw [List.nil_append]; omega) (by omega) z0 ?_
        intro v7 w7 own7 ch0 ch1
        have j7 : Ex w5 w7 := Chg.trans hHeld ch1
        rw [List.nil_append] at own7
        obtain ⟨L7, h7⟩ : ∃ L7, L7 = L ++ [X] := ⟨_, rfl⟩
        rw [← h7] at own7
        have l7 : L7.length ≤ 61 := by rw [h7, List.length_append, List.length_singleton]; omega
        have H7 := Lib.hid h7
        clear h7
        obtain ⟨A7, C7, rfl, s7, _, _, _⟩ := own7.slf (fun _ => rfl)
        have s7 := s7.sl
        clear own7 own6 SX z0 ch0 ch1
        refine hK.out _ _ (j7) (fun hHeld => ?_)
        clear hK K
        try simp only [Act.put, List.setIfInBounds_toArray, List.set_cons_zero, List.set_cons_succ]
        refine wpAnyH_ready (rs := [5]) (by kernel_rfl) (by simp) ?_
        refine AllReadyH.cons (o := ⟨some 31, .call { callee := .value (.func 30), args := #[.tmp 30], argTypes := #[23] }, 4, "tape.go:132", #[⟨4, .data⟩, ⟨4, .chain⟩], none⟩) rfl (fun K hK => ?_) AllReadyH.nil
        go_simp
        (with_reducible refine (is_r _ _ _ _ _ s7 (by omega)).mono ?_)
        rintro e w8 ⟨rfl, kk⟩
        have j8 := hHeld.nx kk
        clear kk s7
        refine hK.out _ _ (j8) (fun hHeld => ?_)
        clear hK K
        try simp only [Act.put, List.setIfInBounds_toArray, List.set_cons_zero, List.set_cons_succ]
        refine wpAnyH_done (by kernel_rfl) ?_ _
        replace T := T.nx hHeld
        have own8 := O5.out.nx hHeld
        have B8 := B4.nx hHeld
        have k8 := k2.nxb (hHeld.b b)
        have c0 := B8.cell 0 _ rfl
        have c1 := B8.cell 1 _ rfl
        have c2 := B8.cell 2 _ rfl
        have k9 := R.out.k.nxb k8
        have z8 := k9.size
        clear hHeld B8 B4 SXF OWN0 S5F j6 j7 j8 s7 k8 l7
        cases hc : (checkN L7 == 0) with
        | true =>
          have HCK : Hid (checkN (L ++ [X]) = 0) := Lib.hid (by rw [← H7.out]; simpa using hc)
          clear hc
          go_wp2_with (at_builtin; (refine wpList_append_lit (enc := encN) w8 rfl _ _ 23 rfl w.heap.size 57 (.agg #[.int .i64 0, .string ByteArray.empty, .int .u32 0]) 3 32 Tryz.underlying23 Tryz.infoN rfl (by omega) (by omega) _ _ own8 rfl X _ (by rw [HX.out]; rfl) rfl (by simp [encN, Value.oneCell']) _ (by simp) rfl (by omega) (by omega) _ ?_); intro v9 w9 own9 _ ch1 _)
          refine ⟨⟨q - 1, L ++ [X], by simp; omega, by rw [show ((q - 1 : Nat) : Int) = (q : Int) - 1 by omega], own9, by simp; omega, HCK.out, ?_, TP.chg T ch1 (fun x hx => by omega), Chg.trans k9 (ch1.mono (fun x hx => hx.1))⟩, by simp [intOf]; omega⟩
          intro x hx
          rcases List.mem_append.1 hx with hx | hx
          · exact R.out.word x hx
          · rw [List.mem_singleton.1 hx, HX.out]; exact hX3
        | false =>
          clear hc
          go_wp2_with fail
          exact ⟨⟨q - 1, L, by omega, by rw [show ((q - 1 : Nat) : Int) = (q : Int) - 1 by omega], own8, by omega, R.out.ok, R.out.word, T, k9⟩, by simp [intOf]; omega⟩
      refine AllReadyH.cons (o := ⟨some 29, .buildSlice 23 1 #[(0, .tmp 28)], 23, "tape.go:132", #[⟨2, .data⟩], none⟩) rfl (fun K hK => ?_) AllReadyH.nil
      · go_simp
        have SX := SXF _ hHeld
        have j6 := hHeld.alloc (.cells #[.int .i64 (1 + d), .string s, .int .u32 m] 57)
        (try replace own6 := own6.alloc (.cells #[.int .i64 (1 + d), .string s, .int .u32 m] 57))
        refine hK.out _ _ (j6) (fun hHeld => ?_)
        clear hK K
        try simp only [Act.put, List.setIfInBounds_toArray, List.set_cons_zero, List.set_cons_succ]
        refine wpAnyH_ready (rs := [1]) (by kernel_rfl) (by simp) ?_
        refine AllReadyH.cons (o := ⟨some 27, .call { callee := .builtin .append, args := #[.const (.slice none 0 0), .tmp 26], argTypes := #[23, 23] }, 23, "tape.go:132", #[⟨0, .data⟩], none⟩) rfl (fun K hK => ?_) AllReadyH.nil
        rw [if_pos (by rfl)]
        have own0 := OWN0 _ hHeld
        have s0 := S5F _ hHeld
        have z0 := Ex.size hHeld
        refine wp_append_rd (enc := encN) _ (.const (.slice none 0 0)) (.tmp 26) 23 rfl w5.heap.size 57 (.agg #[.int .i64 0, .string ByteArray.empty, .int .u32 0]) 3 32 Tryz.underlying23 Tryz.infoN rfl (by omega) (by omega) _ [] own0 rfl _ A5 L.length C5 L s0 NIL.out (fun _ => rfl) (by simp [encN, Value.oneCell']) rfl (by simp) (by omega) z0 ?_
        intro v6 w6 own6 ch0 ch1
        have j6 : Ex w5 w6 := Chg.trans hHeld ch1
        (try replace SX := SX.nx (Chg.mono ch0 (fun k hk => ⟨hk, by simp [Value.ownBlock]⟩)))
        clear own0 s0 z0 ch0 ch1
        refine hK.out _ _ (j6) (fun hHeld => ?_)
        clear hK K
        try simp only [Act.put, List.setIfInBounds_toArray, List.set_cons_zero, List.set_cons_succ]
        refine wpAnyH_ready (rs := [4]) (by kernel_rfl) (by simp) ?_
        refine AllReadyH.cons (o := ⟨some 30, .call { callee := .builtin .append, args := #[.tmp 27, .tmp 29], argTypes := #[23, 23] }, 23, "tape.go:132", #[⟨1, .data⟩, ⟨3, .data⟩, ⟨1, .chain⟩], none⟩) rfl (fun K hK => ?_) AllReadyH.nil
        rw [if_pos (by rfl)]
        have z0 := Ex.size hHeld
        refine wp_append_rd (enc := encN) _ (.tmp 27) (.tmp 29) 23 rfl w5.heap.size 57 (.agg #[.int .i64 0, .string ByteArray.empty, .int .u32 0]) 3 32 Tryz.underlying23 Tryz.infoN rfl (by omega) (by omega) _ ([] ++ L) own6 rfl _ _ 1 1 [X] SX (fun h => by cases h) (fun _ => rfl) (by simp [encN, Value.oneCell']) rfl (by rw [List.nil_append]; omega) (by omega) z0 ?_
        intro v7 w7 own7 ch0 ch1
        have j7 : Ex w5 w7 := Chg.trans hHeld ch1
        rw [List.nil_append] at own7
        obtain ⟨L7, h7⟩ : ∃ L7, L7 = L ++ [X] := ⟨_, rfl⟩
        rw [← h7] at own7
        have l7 : L7.length ≤ 61 := by rw [h7, List.length_append, List.length_singleton]; omega
        have H7 := Lib.hid h7
        clear h7
        obtain ⟨A7, C7, rfl, s7, _, _, _⟩ := own7.slf (fun _ => rfl)
        have s7 := s7.sl
        clear own7 own6 SX z0 ch0 ch1
        refine hK.out _ _ (j7) (fun hHeld => ?_)
        clear hK K
        try simp only [Act.put, List.setIfInBounds_toArray, List.set_cons_zero, List.set_cons_succ]
        refine wpAnyH_ready (rs := [5]) (by kernel_rfl) (by simp) ?_
        refine AllReadyH.cons (o := ⟨some 31, .call { callee := .value (.func 30), args := #[.tmp 30], argTypes := #[23] }, 4, "tape.go:132", #[⟨4, .data⟩, ⟨4, .chain⟩], none⟩) rfl (fun K hK => ?_) AllReadyH.nil
        go_simp
        (with_reducible refine (is_r _ _ _ _ _ s7 (by omega)).mono ?_)
        rintro e w8 ⟨rfl, kk⟩
        have j8 := hHeld.nx kk
        clear kk s7
        refine hK.out _ _ (j8) (fun hHeld => ?_)
        clear hK K
        try simp only [Act.put, List.setIfInBounds_toArray, List.set_cons_zero, List.set_cons_succ]
        refine wpAnyH_done (by kernel_rfl) ?_ _
        replace T := T.nx hHeld
        have own8 := O5.out.nx hHeld
        have B8 := B4.nx hHeld
        have k8 := k2.nxb (hHeld.b b)
        have c0 := B8.cell 0 _ rfl
        have c1 := B8.cell 1 _ rfl
        have c2 := B8.cell 2 _ rfl
        have k9 := R.out.k.nxb k8
        have z8 := k9.size
        clear hHeld B8 B4 SXF OWN0 S5F j6 j7 j8 s7 k8 l7
        cases hc : (checkN L7 == 0) with
        | true =>
          have HCK : Hid (checkN (L ++ [X]) = 0) := Lib.hid (by rw [← H7.out]; simpa using hc)
          clear hc
          go_wp2_with (at_builtin; (refine wpList_append_lit (enc := encN) w8 rfl _ _ 23 rfl w.heap.size 57 (.agg #[.int .i64 0, .string ByteArray.empty, .int .u32 0]) 3 32 Tryz.underlying23 Tryz.infoN rfl (by omega) (by omega) _ _ own8 rfl X _ (by rw [HX.out]; rfl) rfl (by simp [encN, Value.oneCell']) _ (by simp) rfl (by omega) (by omega) _ ?_); intro v9 w9 own9 _ ch1 _)
          refine ⟨⟨q - 1, L ++ [X], by simp; omega, by rw [show ((q - 1 : Nat) : Int) = (q : Int) - 1 by omega], own9, by simp; omega, HCK.out, ?_, TP.chg T ch1 (fun x hx => by omega), Chg.trans k9 (ch1.mono (fun x hx => hx.1))⟩, by simp [intOf]; omega⟩
          intro x hx
          rcases List.mem_append.1 hx with hx | hx
          · exact R.out.word x hx
          · rw [List.mem_singleton.1 hx, HX.out]; exact hX3
        | false =>
          clear hc
          go_wp2_with fail
          exact ⟨⟨q - 1, L, by omega, by rw [show ((q - 1 : Nat) : Int) = (q : Int) - 1 by omega], own8, by omega, R.out.ok, R.out.word, T, k9⟩, by simp [intOf]; omega⟩
    · clear hL T
      go_wp2_with fail
      go_ret
      exact ⟨_, L, rfl, R⟩
end Go.Proofs.YtbnbjiddffihoaaGreatDoor

/- Bool of the tape, in the standard forms. -/
namespace Go.Proofs.YtbnbjiddffihoaaGreatDoor
open Go.RowKit
set_option maxHeartbeats 400000 in
theorem bool_t {b : Nat} (n : Int) (w : World) (h : TK w b) (h1 : 1 ≤ n) (h2 : n ≤ 1000000) :
    Calls Tryz.prog 11 #[.pointer (some ⟨b, 0, none⟩), .int .i64 n] w fun e w' => ∃ r : Bool, e = .returned (.bool r) ∧ TK w' b ∧ Exb b w w' := by
  go_enter Tryz.func11, Tryz.ntmps11
  go_wp2_with fail
  refine (next_t n _ h h1 (by omega)).mono ?_
  rintro e w1 ⟨r, rfl, r0, r1, t1, k1⟩
  go_wp2_with fail
  go_ret
  exact ⟨_, rfl, t1, k1⟩
end Go.Proofs.YtbnbjiddffihoaaGreatDoor

/- Numbers, keys, heights of the tape. -/
namespace Go.Proofs.YtbnbjiddffihoaaGreatDoor
open Go.RowKit

def I64 (x : Int) : Prop := -9223372036854775808 ≤ x ∧ x ≤ 9223372036854775807
set_option maxHeartbeats 1000000 in
theorem id_t {b : Nat} (a : Option Addr) (n cp : Nat) (l : List Nd) (w : World) (h : TK w b) (hs : Slb 3 encN b w a n l) (hn : n ≤ 1000) (hi : ∀ x ∈ l, I64 x.id) :
    Calls Tryz.prog 68 #[.pointer (some ⟨b, 0, none⟩), .slice a n cp] w fun e w' => ∃ r : Int, e = .returned (.int .i64 r) ∧ I64 r ∧ TK w' b ∧ Exb b w w' := by
  have HI := Lib.hid hi
  have hlen := Lib.hid hs.len
  clear hi
  go_enter Tryz.func68, Tryz.ntmps68
  by_cases hn0 : n = 0
  · have d0 : ((n : Int) == 0) = true := by simp; omega
    clear hs
    go_wp2_with fail
    refine (pick_t (n := 5) (-1) 4611686018427387904 [0, -1, 999, 4611686018427387904, 1] h rfl rfl rfl (by omega) (by omega) (by intro x hx; simp at hx; omega)).mono ?_
    clear h
    rintro e w2 ⟨r, rfl, r0, r1, T, kk⟩
    go_wp2_with fail
    go_ret
    exact ⟨r, rfl, ⟨by omega, by omega⟩, T, kk⟩
  · have d0 : ((n : Int) == 0) = false := by simp; omega
    have hnp : 0 < n := by omega
    clear hn0
    go_wp2_with fail
    refine (bool_t 8 _ h (by omega) (by omega)).mono ?_
    clear h
    rintro e w1 ⟨r, rfl, T, kk⟩
    cases r with
    | true =>
      clear hs
      go_wp2_with fail
      refine (pick_t (n := 5) (-1) 4611686018427387904 [0, -1, 999, 4611686018427387904, 1] T rfl rfl rfl (by omega) (by omega) (by intro x hx; simp at hx; omega)).mono ?_
      clear T
      rintro e w2 ⟨r, rfl, r0, r1, T, k2⟩
      have kk := kk.nxb k2
      clear k2
      go_wp2_with fail
      go_ret
      exact ⟨r, rfl, ⟨by omega, by omega⟩, T, kk⟩
    | false =>
      have S1 := hs.nxb kk
      clear hs
      go_wp2_with fail
      refine (next_t (n : Int) _ T (by omega) (by omega)).mono ?_
      clear T
      rintro e w2 ⟨j, rfl, j0, j1, T, k2⟩
      obtain ⟨j, rfl⟩ := Int.eq_ofNat_of_zero_le j0
      have S2 := S1.nxb k2
      have kk := kk.nxb k2
      obtain ⟨x, o, y, rfl, hx, hy, hc⟩ := S2.sl.at (j := j) (by omega)
      have e0 : w2.cell? ⟨x, o + j * 3, none⟩ = some (.int .i64 y.id) := hc 0 _ rfl
      have hyi := Lib.hid (HI.out y (List.mem_of_getElem? hy))
      have hjn : (j : Int) < (n : Int) := by omega
      clear k2 S1 S2 hc hy
      go_wp2_with fail
      go_ret
      exact ⟨y.id, rfl, hyi.out, T, kk⟩

set_option maxHeartbeats 1000000 in
theorem oddkey_t {b : Nat} (w : World) (h : TK w b) (hL : LetG w) (hgb : ¬ 0 = b) : Calls Tryz.prog 33 #[.pointer (some ⟨b, 0, none⟩)] w (KeyPost 65 b w) := by
  go_enter Tryz.func33, Tryz.ntmps33
  go_wp2_with fail
  refine (bool_t 10 _ h (by omega) (by omega)).mono ?_
  clear h
  rintro e w1 ⟨r, rfl, T, kk⟩
  have L1 := hL.nxb hgb kk
  clear hL
  cases r with
  | true =>
    go_wp2_with fail
    refine (next_t 6 _ T (by omega) (by omega)).mono ?_
    clear T
    rintro e w2 ⟨j, rfl, j0, j1, T, k2⟩
    obtain ⟨j, rfl⟩ := Int.eq_ofNat_of_zero_le j0
    obtain ⟨s, hs, hc⟩ := (L1.nxb hgb k2) j (by omega)
    have kk := kk.nxb k2
    have HS := Lib.hid hs
    clear hs k2 L1
    go_wp2_with fail
    refine (long_x s 65 _ HS.out (by omega)).mono ?_
    rintro e w3 ⟨⟨r, rfl, hr⟩, rfl⟩
    have HR := Lib.hid hr
    clear hr
    go_wp2_with fail
    go_ret
    exact ⟨r, rfl, Nat.le_of_eq HR.out, T, kk⟩
  | false =>
    go_wp2_with fail
    refine (key_t _ T L1 hgb).mono ?_
    clear T
    rintro e w2 ⟨s, rfl, hs, T, k2⟩
    have kk := kk.nxb k2
    clear k2 L1
    go_wp2_with fail
    go_ret
    exact ⟨s, rfl, by omega, T, kk⟩

end Go.Proofs.YtbnbjiddffihoaaGreatDoor
