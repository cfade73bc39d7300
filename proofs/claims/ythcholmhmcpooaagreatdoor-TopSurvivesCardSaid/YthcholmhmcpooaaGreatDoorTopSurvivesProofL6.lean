/- Texts for TopSurvivesProof. -/
import Derived.Shelf.GgSortFunc.SmallK
import Derived.Lib.SliceRun
import Derived.Test.YthcholmhmcpooaaGreatDoorTopSurvivesProofL3
import Derived.Test.YthcholmhmcpooaaGreatDoorTopSurvivesProofL5
set_option linter.unusedSimpArgs false
set_option linter.unusedVariables false

namespace Go.Proofs.YthcholmhmcpooaaGreatDoor
open Go.RowKit Go.Sort Go.Lib
instance:Inhabited Nd:=⟨Nd.zero⟩
set_option maxRecDepth 100000 in
set_option maxHeartbeats 4000000 in
theorem less_n (blk off B n c i j:Nat) (x y:Nd) (w:World) (hb:w.cell? ⟨B,0,none⟩=some (.slice (some ⟨blk,off,none⟩) n c)) (hi:i<n) (hj:j<n) (hn:n<4611686018427387904)
  (x0:w.cell? ⟨blk,off+i*3,none⟩=some (.int .i64 x.id)) (x1:w.cell? ⟨blk,off+i*3+1,none⟩=some (.string x.key)) (x2:w.cell? ⟨blk,off+i*3+2,none⟩=some (.int .u32 x.word))
  (y0:w.cell? ⟨blk,off+j*3,none⟩=some (.int .i64 y.id)) (y1:w.cell? ⟨blk,off+j*3+1,none⟩=some (.string y.key)) (y2:w.cell? ⟨blk,off+j*3+2,none⟩=some (.int .u32 y.word)) :
  Calls Tryz.prog 66 #[.int .i64 i,.int .i64 j,.pointer (some ⟨B,0,none⟩)] w fun e w'=>e=.returned (.bool (ltN x y))∧∃ (q:Nat) (o1 o2:Obj),w'=((w.drewN q).alloc o1).alloc o2:=by
 have hil:(i:Int)<(n:Int):=by omega
 have hjl:(j:Int)<(n:Int):=by omega
 have hi0:(0:Int)≤(i:Int):=by omega
 have hj0:(0:Int)≤(j:Int):=by omega
 have nb:=World.new_ne w _ hb
 have nx0:=World.new_ne w _ x0
 have ny0:=World.new_ne w _ y0
 go_enter Tryz.func66,Tryz.ntmps66
 go_wp2
 go_region_held3 (fun w'=>w'.cell? ⟨B,0,none⟩=some (.slice (some ⟨blk,off,none⟩) n c)∧w'.cell? ⟨blk,off+i*3,none⟩=some (.int .i64 x.id)∧w'.cell? ⟨blk,off+i*3+1,none⟩=some (.string x.key)∧w'.cell? ⟨blk,off+i*3+2,none⟩=some (.int .u32 x.word)∧w'.cell? ⟨blk,off+j*3,none⟩=some (.int .i64 y.id)∧w'.cell? ⟨blk,off+j*3+1,none⟩=some (.string y.key)∧w'.cell? ⟨blk,off+j*3+2,none⟩=some (.int .u32 y.word))
  (go_keep) (fail)
 all_goals
  cases h1:Op.bytesLess x.key.toList y.key.toList with
  | true =>
   have HL:Hid (ltN x y=true):=lH (by unfold ltN;rw [h1];rfl)
   go_wp2
   go_ret
   exact ⟨by rw [HL.out];rfl,1,_,_,rfl⟩
  | false =>
   cases h2:(x.key.toList==y.key.toList) with
   | false =>
    have HL:Hid (ltN x y=false):=lH (by unfold ltN;rw [h1,h2];rfl)
    go_wp2
    go_ret
    exact ⟨by rw [HL.out];rfl,1,_,_,rfl⟩
   | true =>
    by_cases h3:x.id<y.id
    ·have HL:Hid (ltN x y=true):=lH (by unfold ltN;rw [h1,h2,decide_eq_true h3];rfl)
     go_wp2
     go_ret
     exact ⟨by rw [HL.out];rfl,1,_,_,rfl⟩
    ·have HL:Hid (ltN x y=false):=lH (by unfold ltN;rw [h1,h2,decide_eq_false h3];rfl)
     go_wp2
     go_ret
     exact ⟨by rw [HL.out];rfl,1,_,_,rfl⟩
end Go.Proofs.YthcholmhmcpooaaGreatDoor
namespace Go.Proofs.YthcholmhmcpooaaGreatDoor
open Go.RowKit Go.Sort Go.Lib
theorem lessg_n (blk off B n c:Nat) (d:Array Nd) (w:World) (hd:d.size=n) (hH:HoldsK encN 3 w blk off d) (hblk:blk<w.heap.size) (hbox:w.cell? ⟨B,0,none⟩=some (.slice (some ⟨blk,off,none⟩) n c)) (hne:B≠blk) (hn:n<4611686018427387904) :
  LessG Tryz.prog 66 #[.pointer (some ⟨B,0,none⟩)] encN 3 ltN blk off d.size w:=by
 intro m os dk hs i j hi hj
 have hB:B<w.heap.size:=World.block_lt_of_cell? w _ hbox
 have hHk:HoldsK encN 3 (sortWorldK encN 3 w blk off m dk os) blk off dk:=holdsK_sortWorldK encN 3 w blk off m d dk os hblk hH hs
 have hb:(sortWorldK encN 3 w blk off m dk os).cell? ⟨B,0,none⟩=some (.slice (some ⟨blk,off,none⟩) n c):=by
  unfold sortWorldK
  rw [cell?_grow _ _ _ (by rw [size_putRowK];exact hB),cell?_putRowK_other encN 3 _ blk off _ _ hne]
  exact hbox
 refine (less_n blk off B n c i j dk[i]! dk[j]! _ hb (by omega) (by omega) hn (hHk.cell (i:=i) (c:=0) (by omega) (by omega)).1 (hHk.cell (i:=i) (c:=1) (by omega) (by omega)).1 (hHk.cell (i:=i) (c:=2) (by omega) (by omega)).1
  (hHk.cell (i:=j) (c:=0) (by omega) (by omega)).1 (hHk.cell (i:=j) (c:=1) (by omega) (by omega)).1 (hHk.cell (i:=j) (c:=2) (by omega) (by omega)).1).mono ?_
 rintro e w' ⟨rfl,q,o1,o2,rfl⟩
 refine ⟨rfl,q,#[o1,o2],?_⟩
 rw [sortWorldK_drewN,alloc_eq_grow,alloc_eq_grow,grow_grow]
 unfold sortWorldK
 rw [grow_grow]
 rfl
set_option maxRecDepth 100000 in
set_option maxHeartbeats 2000000 in
theorem clone_n (a:Option Addr) (n c:Nat) (l:List Nd) (w:World) (h:Sl 3 encN w a n l) (hn:n≤1000) :
  Calls Tryz.prog 65 #[.slice a n c] w fun e w'=>∃ v,e=.returned v∧OwnL 3 encN 36 w.heap.size w' v l∧Ex w w':=by
 have HL:=lH h.len
 cases a with
 | none =>
  have hn0:n=0:=by
   rcases h.2 with h0 | ⟨x,o,e,_⟩
   ·exact h0
   ·cases e
  have hl:l=[]:=List.eq_nil_of_length_eq_zero (HL.out.trans hn0)
  subst hn0 hl
  clear h HL
  have hq:∀ w:World,(binOp .eql 25 (.slice none 0 c) (.slice none 0 0)).run Tryz.prog w=.ok (.bool true) w:=fun w=>Lib.run_eql_slice_nil w 25 36 none 0 c 0 0 Tryz.underlying25
  go_enter Tryz.func65,Tryz.ntmps65
  go_wp2
  go_ret
  exact ⟨_,rfl,OwnL.nil _ _ _ _ _,Ex.refl _⟩
 | some A =>
  have q0:=Ex.new w (.cells #[] 36)
  have h0:=h.nx q0
  have own0:OwnL 3 encN 36 w.heap.size (w.alloc (.cells #[] 36)) (.slice (some ⟨w.heap.size,0,none⟩) 0 0) []:=OwnL.empty (Nat.le_refl _) rfl
  clear h
  have hq:∀ w:World,(binOp .eql 25 (.slice (some A) n c) (.slice none 0 0)).run Tryz.prog w=.ok (.bool false) w:=fun w=>Lib.run_eql_slice_nil w 25 36 (some A) n c 0 0 Tryz.underlying25
  go_enter Tryz.func65,Tryz.ntmps65
  go_wp2_with (at_builtin;(refine wpList_append_rd (enc:=encN) _ rfl _ _ 25 rfl w.heap.size 36 (.agg #[.int .i64 0,.string ByteArray.empty,.int .u32 0]) 3 32 Tryz.underlying25 Tryz.infoN rfl (by omega) (by omega) _ [] own0 rfl _ (some A) n c l h0 (fun h=>by cases h) (fun _=>rfl) (by simp [encN,Value.oneCell']) rfl (by simp) (by omega) (by simp) ?_);intro v1 w1 own1 hch0 hch1)
  go_ret
  rw [List.nil_append] at own1
  exact ⟨_,rfl,own1,Chg.trans q0 hch1⟩
end Go.Proofs.YthcholmhmcpooaaGreatDoor
namespace Go.Proofs.YthcholmhmcpooaaGreatDoor
open Go.RowKit Go.Sort Go.Lib
noncomputable def Tryz.svT:TypeInfo:=(Tryz.prog.info? 25).get (by kernel_rfl)
noncomputable def Tryz.svE:TypeInfo:=(Tryz.prog.info? 36).get (by kernel_rfl)
theorem Tryz.svT_eq:Tryz.prog.info? 25=some Tryz.svT:=by kernel_rfl
theorem Tryz.svE_eq:Tryz.prog.info? 36=some Tryz.svE:=by kernel_rfl
theorem Tryz.svT_desc:Tryz.svT.desc=.slice 36:=by kernel_rfl
theorem Tryz.svT_packed:Tryz.prog.packed 25=false:=by kernel_rfl
theorem Tryz.svK (n:Nat) (h2:2≤n):Lib.swapperK n Tryz.svE 25=9:=by
 have a:Tryz.svE.hasPointers=true:=by kernel_rfl
 have b:Tryz.svE.bytes=32:=by kernel_rfl
 have c:(n==0)=false:=by simp;omega
 have d:(n==1)=false:=by simp;omega
 simp [Lib.swapperK,a,b,c,d]
theorem Tryz.glob:Tryz.prog.globals.size=2:=by kernel_rfl
set_option maxRecDepth 100000 in
set_option maxHeartbeats 2000000 in
theorem issorted_tiny (a:Option Addr) (n c:Nat) (lf:Fn) (la lb:Array Value) (w:World) (hn:n≤1) :
  Calls Tryz.prog 67 #[.iface 25 (.slice a n c),.func lf la lb] w fun e w'=>e=.returned (.bool true)∧Ex w w':=by
 have hv:=run_valueOf_slice (P:=Tryz.prog) 25 36 Tryz.svT Tryz.svT_eq Tryz.svT_desc a n c w
 have hl:=fun ad w ha=>run_valueLen_slice (P:=Tryz.prog) 25 36 Tryz.svT Tryz.svT_eq Tryz.svT_desc Tryz.svT_packed ad a n c w ha
 simp only [typeHandle,Tryz.glob] at hv hl
 have hlt:¬ (0:Int)<(n:Int)-1:=by omega
 go_enter Tryz.func67,Tryz.ntmps67
 go_wp2
 rw [run_callFunc_extern Tryz.func142 (by kernel_rfl) (by kernel_rfl) (by kernel_rfl) (e:=fun args=>Extern.ReflectliteValue.unpack (args.getD 0 (.tuple #[]))) (by kernel_rfl),
  show Sem.run Tryz.prog ((fun args:Array Value=>Extern.ReflectliteValue.unpack (args.getD 0 (.tuple #[]))) #[.iface 25 (.slice a n c)]) w=_ from hv]
 simp only [Result.andThen]
 rw [Oper.upon_value]
 go_wp2
 rw [run_callFunc_extern Tryz.func143 (by kernel_rfl) (by kernel_rfl) (by kernel_rfl) (e := Extern.ReflectliteValue.method (Extern.ReflectliteValue.valueError "reflectlite.Value.Len" 0) Extern.ReflectliteValue.len) (by kernel_rfl),
  hl _ _ (by simp)]
 simp only [Result.andThen]
 rw [Oper.upon_value]
 go_wp2
 refine wp_loop_rounds 1 ?_
 rw [rounds_succ]
 go_wp2
 go_ret
 exact ⟨rfl,((Ex.refl w).alloc _).alloc _⟩
def IsoPost (blk off n:Nat) (d:Array Nd) (w:World) (e:Ending) (w':World):Prop :=
 ∃ (b:Bool) (m:Nat) (os:Array Obj),e=.returned (.bool b)∧(b=true→∀ i,0<i→i<n→ltN d[i]! d[i-1]! = false)∧w'=sortWorldK encN 3 w blk off m d os
set_option maxRecDepth 100000 in
set_option maxHeartbeats 4000000 in
theorem issorted_n (blk off B n c:Nat) (d:Array Nd) (w:World) (hd:d.size=n) (hH:HoldsK encN 3 w blk off d) (hblk:blk<w.heap.size) (hbox:w.cell? ⟨B,0,none⟩=some (.slice (some ⟨blk,off,none⟩) n c)) (hne:B≠blk) (hn0:1≤n) (hn:n<4611686018427387904) :
  Calls Tryz.prog 67 #[.iface 25 (.slice (some ⟨blk,off,none⟩) n c),.func (.func 66) #[] #[.pointer (some ⟨B,0,none⟩)]] w
   (IsoPost blk off n d w):=by
 have hv:=run_valueOf_slice (P:=Tryz.prog) 25 36 Tryz.svT Tryz.svT_eq Tryz.svT_desc (some ⟨blk,off,none⟩) n c w
 have hl:=fun ad w ha=>run_valueLen_slice (P:=Tryz.prog) 25 36 Tryz.svT Tryz.svT_eq Tryz.svT_desc Tryz.svT_packed ad (some ⟨blk,off,none⟩) n c w ha
 simp only [typeHandle,Tryz.glob] at hv hl
 have LG:=lessg_n blk off B n c d w hd hH hblk hbox hne hn
 have HLG:=lH LG
 have HD:=lH hd
 have hW:∀ o1 o2:Obj,(w.alloc o1).alloc o2=sortWorldK encN 3 w blk off 0 d #[o1,o2]:=fun o1 o2=>by
  have:sortWorldK encN 3 w blk off 0 d #[]=w:=sortWorldK_start encN 3 w blk off d hH
  rw [alloc_eq_grow,alloc_eq_grow,grow_grow]
  unfold sortWorldK at this ⊢
  rw [grow_empty] at this
  rw [this]
  rfl
 have HW:=lH hW
 have eg:∀ args w,(callFunc 66 args).run Tryz.prog w=.ok (.enter 66 args) w:=enters_of Tryz.func66 (by kernel_rfl) rfl
 clear hH hd LG hW hbox
 go_enter Tryz.func67,Tryz.ntmps67
 go_wp2
 rw [run_callFunc_extern Tryz.func142 (by kernel_rfl) (by kernel_rfl) (by kernel_rfl) (e:=fun args=>Extern.ReflectliteValue.unpack (args.getD 0 (.tuple #[]))) (by kernel_rfl),
  show Sem.run Tryz.prog ((fun args:Array Value=>Extern.ReflectliteValue.unpack (args.getD 0 (.tuple #[]))) #[.iface 25 (.slice (some ⟨blk,off,none⟩) n c)]) w=_ from hv]
 simp only [Result.andThen]
 rw [Oper.upon_value]
 go_wp2
 rw [run_callFunc_extern Tryz.func143 (by kernel_rfl) (by kernel_rfl) (by kernel_rfl) (e := Extern.ReflectliteValue.method (Extern.ReflectliteValue.valueError "reflectlite.Value.Len" 0) Extern.ReflectliteValue.len) (by kernel_rfl),
  hl _ _ (by simp)]
 simp only [Result.andThen]
 rw [Oper.upon_value]
 clear hv hl
 go_wp2
 go_loopw [7] (fun vi wr=>∃ (i m:Nat) (os:Array Obj),vi=.int .i64 i∧i+1≤n∧(∀ j,i<j→j<n→ltN d[j]! d[j-1]! = false)∧wr=sortWorldK encN 3 w blk off m d os) (fun vi _=>(intOf vi).toNat)
 case atStart=>exact ⟨n-1,0,_,by rw [Int.natCast_sub hn0];rfl,by omega,by intro j h1 h2;omega,HW.out _ _⟩
 case round =>
  obtain ⟨i,m,os,rfl,hin,hso,hwr⟩:=hrel
  have HSO:=lH hso
  have HWR:=lH hwr
  clear hso hwr
  by_cases hi0:0<i
  ·have hi1:(0:Int)<(i:Int):=by omega
   have hl:=HLG.out m os d rfl i (i-1) (by rw [HD.out];omega) (by rw [HD.out];omega)
   rw [← HWR.out,show (((i-1:Nat):Int))=(i:Int)-1 by omega] at hl
   cases hlv:ltN d[i]! d[i-1]! with
   | true =>
    rw [hlv] at hl
    clear hlv
    go_wp2_with fail
    refine hl.mono ?_
    rintro e w1 ⟨rfl,q,os',hw1⟩
    have HW1:=lH hw1
    clear hw1 hl
    go_wp2_with fail
    go_ret
    exact ⟨false,m+q,os++os',rfl,fun h=>(by cases h),HW1.out⟩
   | false =>
    rw [hlv] at hl
    have HLV:=lH hlv
    clear hlv
    go_wp2_with fail
    refine hl.mono ?_
    rintro e w1 ⟨rfl,q,os',hw1⟩
    have HW1:=lH hw1
    clear hw1 hl
    go_wp2
    go_roundw
    case rel=>exact ⟨i-1,m+q,os++os',by rw [show ((i-1:Nat):Int)=(i:Int)-1 by omega],by omega,fun j h1 h2=>by
     rcases Nat.lt_or_ge i j with h | h
     ·exact HSO.out j h h2
     ·obtain rfl:j=i:=by omega
      exact HLV.out,HW1.out⟩
    case measure=>simp [intOf];omega
  ·have hi1:¬ (0:Int)<(i:Int):=by omega
   go_wp2
   go_ret
   exact ⟨true,m,os,rfl,fun _ j h1 h2=>HSO.out j (by omega) h2,HWR.out⟩
theorem swaps_n (blk off n c:Nat):SwapSwapsK Tryz.prog 196 #[.slice (some ⟨blk,off,none⟩) n c,.pointer (some ⟨2,36,none⟩)] encN 3 blk off n:=by
 have h:=swapSwapsK_of_literal (P:=Tryz.prog) false 196
  (fun args W=>run_callFunc_extern Tryz.func196 (by kernel_rfl) (by kernel_rfl) (by kernel_rfl) (e:=Extern.ReflectliteSwapper.swap false) (by kernel_rfl) args W)
  36 Tryz.svE Tryz.svE_eq encN 3 (fun _=>rfl) (by kernel_rfl) (fun _=>by kernel_rfl) (fun x v hv=>by simp [encN] at hv;rcases hv with rfl | rfl | rfl<;>rfl) blk off n c
 rw [typeHandle,Tryz.glob] at h
 exact h
theorem swapper_n (blk off n c : Nat) (hn2 : 2 ≤ n) (w : World) : (Extern.ReflectliteSwapper.swapper "internal/reflectlite" (Extern.ReflectliteValue.valueError "Swapper") #[.iface 25 (.slice (some ⟨blk, off, none⟩) n c)]).run Tryz.prog w
  = .ok (.func (.func 196) #[] #[.slice (some ⟨blk,off,none⟩) n c,.pointer (some ⟨2,36,none⟩)]) w:=by
 have h:=run_swapper_slice (P:=Tryz.prog) 25 36 Tryz.svT Tryz.svE Tryz.svT_eq Tryz.svT_desc Tryz.svE_eq 25 (fun _=>by kernel_rfl) (some ⟨blk,off,none⟩) n c 196 (by rw [Tryz.svK n hn2];kernel_rfl) w
 rw [if_neg (by rw [Tryz.svK n hn2];omega),typeHandle,Tryz.glob] at h
 exact h
set_option maxRecDepth 100000 in
set_option maxHeartbeats 4000000 in
theorem slicestable_n (blk off B n c:Nat) (d:Array Nd) (w:World) (hd:d.size=n) (hH:HoldsK encN 3 w blk off d) (hblk:blk<w.heap.size) (hbox:w.cell? ⟨B,0,none⟩=some (.slice (some ⟨blk,off,none⟩) n c)) (hne:B≠blk) (hn2:2≤n) (hn:n<1152921504606846976) :
  Calls Tryz.prog 68 #[.iface 25 (.slice (some ⟨blk,off,none⟩) n c),.func (.func 66) #[] #[.pointer (some ⟨B,0,none⟩)]] w
   (SrtPost encN 3 w blk off fun d'=>PermIn 0 n d d'∧SortedIn ltN 0 n d'):=by
 have hv:=run_valueOf_slice (P:=Tryz.prog) 25 36 Tryz.svT Tryz.svT_eq Tryz.svT_desc (some ⟨blk,off,none⟩) n c w
 have hl:=fun ad w ha=>run_valueLen_slice (P:=Tryz.prog) 25 36 Tryz.svT Tryz.svT_eq Tryz.svT_desc Tryz.svT_packed ad (some ⟨blk,off,none⟩) n c w ha
 have hs:=fun w=>swapper_n blk off n c hn2 w
 have HSW:=lH (swaps_n blk off n c)
 simp only [typeHandle,Tryz.glob] at hv hl
 have LG:=lessg_n blk off B n c d w hd hH hblk hbox hne (by omega)
 have hW:∀ o1 o2:Obj,(w.alloc o1).alloc o2=sortWorldK encN 3 w blk off 0 d #[o1,o2]:=fun o1 o2=>by
  have:sortWorldK encN 3 w blk off 0 d #[]=w:=sortWorldK_start encN 3 w blk off d hH
  rw [alloc_eq_grow,alloc_eq_grow,grow_grow]
  unfold sortWorldK at this ⊢
  rw [grow_empty] at this
  rw [this]
  rfl
 have eg:∀ args w,(callFunc 66 args).run Tryz.prog w=.ok (.enter 66 args) w:=enters_of Tryz.func66 (by kernel_rfl) rfl
 have ST:Hid (∀ (o1 o2:Obj),Calls Tryz.prog 145 #[dta 66 #[.pointer (some ⟨B,0,none⟩)] 196 #[.slice (some ⟨blk,off,none⟩) n c,.pointer (some ⟨2,36,none⟩)],.int .i64 n] ((w.alloc o1).alloc o2)
   (SrtPost encN 3 w blk off fun d'=>PermIn 0 n d d'∧SortedIn ltN 0 n d')):=lH (fun o1 o2=>by
  rw [hW]
  have hsw:SwapSwapsK Tryz.prog 196 #[.slice (some ⟨blk,off,none⟩) n c,.pointer (some ⟨2,36,none⟩)] encN 3 blk off d.size:=by rw [hd];exact HSW.out
  refine (stable_s (enc:=encN) (kk:=3) (lt:=ltN) (fun _=>rfl) swo_ltN 66 #[.pointer (some ⟨B,0,none⟩)] 196 #[.slice (some ⟨blk,off,none⟩) n c,.pointer (some ⟨2,36,none⟩)] eg blk off n d _ hd (LG.on hblk 0 d _ rfl) hsw (holdsK_sortWorldK encN 3 w blk off 0 d d _ hblk hH rfl) (lt_sortWorldK encN 3 w blk off 0 d _ hblk) hn).mono ?_
  rintro e w' ⟨rfl,m,os,d',hp,rfl⟩
  exact ⟨rfl,0+m,#[o1,o2]++os,d',hp,sortWorldK_on encN 3 w blk off 0 m d d' _ os hblk (by rw [hp.1.1])⟩)
 clear hH hd LG hW hbox HSW eg
 go_enter Tryz.func68,Tryz.ntmps68
 go_wp2
 rw [run_callFunc_extern Tryz.func142 (by kernel_rfl) (by kernel_rfl) (by kernel_rfl) (e:=fun args=>Extern.ReflectliteValue.unpack (args.getD 0 (.tuple #[]))) (by kernel_rfl),
  show Sem.run Tryz.prog ((fun args:Array Value=>Extern.ReflectliteValue.unpack (args.getD 0 (.tuple #[]))) #[.iface 25 (.slice (some ⟨blk,off,none⟩) n c)]) w=_ from hv]
 simp only [Result.andThen]
 rw [Oper.upon_value]
 go_wp2
 rw [run_callFunc_extern Tryz.func144 (by kernel_rfl) (by kernel_rfl) (by kernel_rfl) (e := Extern.ReflectliteSwapper.swapper "internal/reflectlite" (Extern.ReflectliteValue.valueError "Swapper")) (by kernel_rfl), hs]
 simp only [Result.andThen]
 rw [Oper.upon_value]
 go_wp2
 rw [run_callFunc_extern Tryz.func143 (by kernel_rfl) (by kernel_rfl) (by kernel_rfl) (e := Extern.ReflectliteValue.method (Extern.ReflectliteValue.valueError "reflectlite.Value.Len" 0) Extern.ReflectliteValue.len) (by kernel_rfl),
  hl _ _ (by simp)]
 simp only [Result.andThen]
 rw [Oper.upon_value]
 clear hv hl hs
 go_wp2_with fail
 refine (ST.out _ _).mono ?_
 rintro e w' ⟨rfl,m,os,d',hp,hw⟩
 have HP:=lH hp
 have HW:=lH hw
 clear hp hw ST
 go_wp2
 go_end0
 exact ⟨rfl,m,os,d',HP.out,HW.out⟩
end Go.Proofs.YthcholmhmcpooaaGreatDoor
namespace Go.Proofs.YthcholmhmcpooaaGreatDoor
open Go.RowKit Go.Sort Go.Lib
theorem flatK_list (d:Array Nd):flatK encN 3 d=(d.toList.flatMap encN).toArray:=by
 have hlen:(d.toList.flatMap encN).length=d.size*3:=by rw [flatW_len (sz:=3) (fun _=>rfl),Array.length_toList]
 refine ext_get! (by rw [size_flatK];simp [hlen]) fun t ht=>?_
 rw [size_flatK] at ht
 rw [get_flatK encN 3 d t ht]
 have hd:t / 3<d.size:=by omega
 have hm:t % 3<(encN d[t / 3]!).length:=by show t % 3<3;omega
 have h1:d.toList[t / 3]?=some d[t / 3]!:=by
  rw [getElem!_pos d (t / 3) hd,List.getElem?_eq_getElem (by simpa using hd)]
  simp
 have h:=flat_at (enc:=encN) (sz:=3) (fun _=>rfl) d.toList (t / 3) d[t / 3]! h1 (t % 3) _ (List.getElem?_eq_getElem hm)
 rw [show t / 3*3+t % 3=t by omega] at h
 rw [getElem!_pos (encN d[t / 3]!) (t % 3) hm]
 have ht':t<(d.toList.flatMap encN).length:=by omega
 rw [getElem!_pos _ t (by simpa using ht')]
 rw [List.getElem?_eq_getElem ht'] at h
 simpa using (Option.some.inj h).symm
theorem own_holds {e:TypeId} {base g n cap:Nat} {w:World} {l:List Nd} (h:OwnL 3 encN e base w (.slice (some ⟨g,0,none⟩) n cap) l):HoldsK encN 3 w g 0 l.toArray:=by
 rcases h.2 with ⟨h1,_⟩ | ⟨g',cap',cur,e1,e2,e3,e4,e5,e6,e7⟩
 ·cases h1
 ·cases e1
  intro j hj
  rw [flatK_list] at hj ⊢
  have hj':j<(l.flatMap encN).length:=by simpa using hj
  refine ⟨?_,by simp [World.frozen?,e3]⟩
  have h1:(cur.toList.take (l.length*3))[j]?=some (l.flatMap encN)[j]:=by rw [e7];exact List.getElem?_eq_getElem hj'
  rw [flatW_len (sz:=3) (fun _=>rfl)] at hj'
  rw [List.getElem?_take,if_pos hj'] at h1
  have h2:cur[j]?=some (l.flatMap encN)[j]:=by simpa using h1
  rw [getElem!_pos _ j hj]
  simp [World.cell?,e3,h2]
theorem sortWorldK_heap {w:World} {g m:Nat} {cur:Array Value} {e:TypeId} {fr:Nat×Nat} (d:Array Nd) (os:Array Obj) (h:w.heap[g]?=some (.cells cur e fr)) :
  (sortWorldK encN 3 w g 0 m d os).heap[g]?=some (.cells (putCells id 0 (flatK encN 3 d) cur) e fr):=by
 have hg:g<(w.heap.modify g (onCells (putCells id 0 (flatK encN 3 d)))).size:=by simp;exact heap_lt h
 show ((w.heap.modify g (onCells (putCells id 0 (flatK encN 3 d))))++os)[g]?=_
 rw [Array.getElem?_append_left hg,Array.getElem?_modify,if_pos rfl,h]
 rfl
theorem sortWorldK_exb (w:World) (g m:Nat) (d:Array Nd) (os:Array Obj):Exb g w (sortWorldK encN 3 w g 0 m d os):=by
 refine ⟨rfl,rfl,rfl,?_,fun k hk=>?_⟩
 ·show _≤((w.heap.modify g (onCells (putCells id 0 (flatK encN 3 d))))++os).size
  simp
 ·have hg:k<(w.heap.modify g (onCells (putCells id 0 (flatK encN 3 d)))).size:=by simp;exact hk.1
  show ((w.heap.modify g (onCells (putCells id 0 (flatK encN 3 d))))++os)[k]?=_
  rw [Array.getElem?_append_left hg,Array.getElem?_modify,if_neg (fun h=>hk.2 h.symm)]
theorem own_sorted {e:TypeId} {base g n cap m:Nat} {w:World} {l:List Nd} (h:OwnL 3 encN e base w (.slice (some ⟨g,0,none⟩) n cap) l) (d:Array Nd) (hd:d.size=l.length) (os:Array Obj) :
  OwnL 3 encN e base (sortWorldK encN 3 w g 0 m d os) (.slice (some ⟨g,0,none⟩) n cap) d.toList:=by
 rcases h.2 with ⟨h1,_⟩ | ⟨g',cap',cur,e1,e2,e3,e4,e5,e6,e7⟩
 ·cases h1
 ·cases e1
  have hl:d.toList.length=l.length:=by rw [Array.length_toList,hd]
  refine ⟨by rw [flatW_len (sz:=3) (fun _=>rfl)],.inr ⟨g,cap,_,by rw [hl],e2,sortWorldK_heap d os e3,by rw [hl];exact e4,e5,by simpa [putCells] using e6,?_⟩⟩
  have hf:(flatK encN 3 d).size=l.length*3:=by rw [size_flatK,hd]
  rw [hl]
  apply List.ext_getElem?
  intro j
  rw [List.getElem?_take]
  by_cases hj:j<l.length*3
  ·rw [if_pos hj]
   have hjc:j<cur.size:=by
    have:=Nat.mul_le_mul_right 3 e4
    omega
   have hp:(putCells id 0 (flatK encN 3 d) cur)[j]?=some (flatK encN 3 d)[j]!:=by
    unfold putCells
    rw [Array.getElem?_mapIdx,Array.getElem?_eq_getElem hjc,Option.map_some,if_pos (by omega)]
    rfl
   rw [Array.getElem?_toList,hp,getElem!_pos _ j (by omega)]
   have hx:=congrArg Array.toList (flatK_list d)
   have:(d.toList.flatMap encN)=(flatK encN 3 d).toList:=by rw [flatK_list]
   rw [this,List.getElem?_eq_getElem (by rw [Array.length_toList];omega)]
   simp
  ·rw [if_neg hj]
   symm
   rw [List.getElem?_eq_none]
   rw [flatW_len (sz:=3) (fun _=>rfl),hl];omega
def SoPost (l:List Nd) (w:World) (e:Ending) (w':World):Prop :=
 ∃ (v:Value) (S:List Nd),e=.returned v∧OwnL 3 encN 36 w.heap.size w' v S∧(S.Perm l∧AscN S)∧Ex w w'
theorem asc_of_adj {l:List Nd} (h:∀ i,0<i→i<l.length→ltN l.toArray[i]! l.toArray[i-1]! = false):AscN l:=by
 have:∀ (k i:Nat),i+k<l.length→ltN l.toArray[i+k]! l.toArray[i]! = false:=by
  intro k
  induction k with
  | zero=>intro i _;exact swo_ltN.irrefl _
  | succ k ih =>
   intro i hi
   have h1:=h (i+(k+1)) (by omega) hi
   rw [show i+(k+1)-1=i+k by omega] at h1
   exact swo_ltN.ntrans _ _ _ h1 (ih i (by omega))
 unfold AscN
 rw [List.pairwise_iff_getElem]
 intro i j hi hj hij
 have:=this (j-i) i (by omega)
 rw [show i+(j-i)=j by omega,getElem!_pos _ j (by simpa using hj),getElem!_pos _ i (by simpa using hi)] at this
 simpa using this
theorem asc_of_sorted {n:Nat} {d:Array Nd} (h:SortedIn ltN 0 n d) (hn:d.size=n):AscN d.toList:=by
 unfold AscN
 rw [List.pairwise_iff_getElem]
 intro i j hi hj hij
 have hi':i<d.size:=by simpa using hi
 have hj':j<d.size:=by simpa using hj
 have:=h i j (Nat.zero_le _) hij (by omega)
 rw [getElem!_pos d j hj',getElem!_pos d i hi'] at this
 simpa using this
theorem perm_of_permIn {n:Nat} {l:List Nd} {d:Array Nd} (h:PermIn 0 n l.toArray d) (hn:l.length=n):d.toList.Perm l:=by
 have h3:=h.2.2
 have hs:d.size=n:=by rw [h.1];simpa using hn
 rw [show d.extract 0 n=d by rw [← hs];exact Array.extract_size,show l.toArray.extract 0 n=l.toArray by rw [← hn];simp] at h3
 simpa using h3
theorem asc_small {l:List Nd} (h:l.length≤1):AscN l:=by
 match l,h with
 | [],_=>exact List.Pairwise.nil
 | [x],_=>exact List.pairwise_singleton _ _
set_option maxRecDepth 100000 in
set_option maxHeartbeats 4000000 in
theorem sort_p (a:Option Addr) (n c:Nat) (l:List Nd) (w:World) (h:Sl 3 encN w a n l) (hn:n≤1000) :
  Calls Tryz.prog 12 #[.slice a n c] w (SoPost l w):=by
 have HL:=lH h.len
 go_enter Tryz.func12,Tryz.ntmps12
 go_wp2_with fail
 (with_reducible refine (clone_n _ _ _ _ _ h hn).mono ?_)
 rintro e w1 ⟨v1,rfl,own1,k1⟩
 clear h
 have O1:=lH own1
 have K1:=lH k1
 by_cases hn2:n≤1
 ·obtain ⟨a1,c1,rfl,_,_,_,_⟩:=own1.slf (fun _=>rfl)
  rw [HL.out] at own1 ⊢
  have B2:=Blk.new w1 [.slice a1 n c1] 25
  have k2:=Ex.new w1 (.cells #[.slice a1 n c1] 25)
  obtain ⟨w2,hw2⟩:∃ w2,w2=w1.alloc (.cells #[.slice a1 n c1] 25):=⟨_,rfl⟩
  obtain ⟨B,hB⟩:∃ B,B=w1.heap.size:=⟨_,rfl⟩
  have B2:Blk w2 B [.slice a1 n c1] 25:=by rw [hw2,hB];exact B2
  rw [← hw2] at k2
  have HW2:=lH hw2
  have HB:=lH hB
  have q0:=B2.cell 0 _ rfl
  have K2:=lH (k1.nx k2)
  have O2:=lH (own1.nx k2)
  clear own1 k1 hw2 hB k2
  go_wp2_with fail
  rw [← HB.out,← HW2.out]
  go_wp2_with fail
  (with_reducible refine (issorted_tiny _ _ _ _ _ _ _ hn2).mono ?_)
  rintro e w3 ⟨rfl,k3⟩
  have B3:=B2.nx k3
  have q3:=B3.cell 0 _ rfl
  have O3:=lH (O2.out.nx k3)
  have K3:=lH (K2.out.nx k3)
  clear q0 B2 B3 k3
  go_wp2_with fail
  go_ret
  exact ⟨_,l,rfl,O3.out,⟨List.Perm.refl _,asc_small (by rw [HL.out];exact hn2)⟩,K3.out⟩
 ·obtain ⟨g,cap,rfl,hgw⟩:∃ g cap,v1=.slice (some ⟨g,0,none⟩) n cap∧w.heap.size≤g:=by
   rcases own1.2 with ⟨_,h1⟩ | ⟨g',cap',cur,e1,e2,_⟩
   ·have:=HL.out;omega
   ·exact ⟨g',cap',by rw [e1,HL.out],e2⟩
  have hgl:g<w1.heap.size:=(own1.lt g rfl).2
  have B2:=Blk.new w1 [.slice (some ⟨g,0,none⟩) n cap] 25
  have k2:=Ex.new w1 (.cells #[.slice (some ⟨g,0,none⟩) n cap] 25)
  obtain ⟨w2,hw2⟩:∃ w2,w2=w1.alloc (.cells #[.slice (some ⟨g,0,none⟩) n cap] 25):=⟨_,rfl⟩
  obtain ⟨B,hB⟩:∃ B,B=w1.heap.size:=⟨_,rfl⟩
  have B2:Blk w2 B [.slice (some ⟨g,0,none⟩) n cap] 25:=by rw [hw2,hB];exact B2
  rw [← hw2] at k2
  have hBg:B≠g:=by omega
  have hwB:w.heap.size≤B:=by have:=k1.size;omega
  have HW2:=lH hw2
  have HB:=lH hB
  have q0:=B2.cell 0 _ rfl
  have K2:=lH (k1.nx k2)
  have O2:=lH (own1.nx k2)
  have hg2:g<w2.heap.size:=by have:=k2.size;omega
  have B2:=lH B2
  clear own1 k1 hw2 hB k2
  go_wp2_with fail
  rw [← HB.out,← HW2.out]
  go_wp2_with fail
  (with_reducible refine (issorted_n g 0 B n cap l.toArray w2 (by simpa using HL.out) (own_holds O2.out) hg2 q0 hBg (by omega) (by omega)).mono ?_)
  rintro e w3 ⟨b,m,os,rfl,hb,hw3⟩
  have O3:=own_sorted (m:=m) O2.out l.toArray (by simp) os
  have kx:=sortWorldK_exb w2 g m l.toArray os
  rw [← hw3] at O3 kx
  have B3:=B2.out.nxb hBg kx
  have q3:=B3.cell 0 _ rfl
  have K3:=lH (Ex.of_exb ((K2.out.b g).nxb kx) hgw)
  have hg3:g<w3.heap.size:=by have:=kx.size;omega
  have O3:=lH O3
  have B3:=lH B3
  clear hw3 q0 B2 kx
  cases b with
  | true =>
   have HAS:Hid (AscN l):=lH (asc_of_adj (fun i h1 h2=>hb rfl i h1 (by rw [← HL.out];exact h2)))
   clear hb
   go_wp2_with fail
   go_ret
   exact ⟨_,l,rfl,O3.out,⟨List.Perm.refl _,HAS.out⟩,K3.out⟩
  | false =>
   clear hb
   go_wp2_with fail
   (with_reducible refine (slicestable_n g 0 B n cap l.toArray w3 (by simpa using HL.out) (own_holds O3.out) hg3 q3 hBg (by omega) (by omega)).mono ?_)
   rintro e w4 ⟨rfl,m,os,d,⟨hp,hso⟩,hw4⟩
   have hd:d.size=l.length:=by rw [hp.1];simp
   have O4:=own_sorted (m:=m) O3.out d hd os
   have kx:=sortWorldK_exb w3 g m d os
   rw [← hw4] at O4 kx
   have B4:=B3.out.nxb hBg kx
   have q4:=B4.cell 0 _ rfl
   have K4:=lH (Ex.of_exb ((K3.out.b g).nxb kx) hgw)
   have O4:=lH O4
   have HP:Hid (d.toList.Perm l∧AscN d.toList):=lH ⟨perm_of_permIn hp HL.out,asc_of_sorted hso (by rw [hd];exact HL.out)⟩
   clear hw4 q3 B4 kx hp hso hd
   go_wp2_with fail
   go_ret
   exact ⟨_,d.toList,rfl,O4.out,HP.out,K4.out⟩
def IjRel (l:List Int) (v:Int) (n:Nat) (w:World) (i:Value) (wr:World):Prop :=
 ∃ k:Nat,k≤n∧i=.int .i64 k∧Ex w wr∧∀ j z,j<k→l[j]?=some z→z≠v
set_option maxHeartbeats 1000000 in
theorem index_i (a:Option Addr) (n c:Nat) (l:List Int) (v:Int) (w:World) (h:Sl 1 encI w a n l) (hn:n≤4000000000000000000) :
  Calls Tryz.prog 173 #[.slice a n c,.int .i64 v] w fun e w'=>∃ r:Int,e=.returned (.int .i64 r)∧decide (0≤r)=l.contains v∧Ex w w':=by
 have HL:=lH h.len
 have hs:=lH h
 clear h
 go_enter Tryz.func173,Tryz.ntmps173
 go_wp2
 go_loopw [8] (fun i wr=>IjRel l v n w i wr) (fun i _=>n-(intOf i).toNat)
 case atStart=>exact ⟨0,by omega,rfl,Ex.refl _,by intro j z h;omega⟩
 case round =>
  obtain ⟨k,hk,rfl,kw,hno⟩:=hrel
  have HNO:=lH hno
  clear hno
  obtain ⟨wo,rfl⟩:∃ wo:World,wo=wr:=⟨_,rfl⟩
  by_cases hlt:k<n
  ·obtain ⟨x1,o1,y,rfl,hx1,hy,hc1⟩:=(hs.out.nx kw).at hlt
   have e0:wo.cell? ⟨x1,o1+k,none⟩=some (.int .i64 y):=by simpa using hc1 0 _ rfl
   have HY:=lH hy
   have KW:=lH kw
   clear hc1 hy kw
   by_cases hv:y=v
   ·have HC:Hid (decide ((0:Int)≤(k:Int))=l.contains v):=lH (by
     have h1:l.contains v=true:=by rw [List.contains_iff_mem,← hv];exact List.mem_of_getElem? HY.out
     rw [h1];simp)
    have hb:(v==y)=true:=by rw [hv];simp
    clear hv
    go_wp2_with fail
    go_ret
    exact ⟨k,rfl,HC.out,KW.out⟩
   ·have HV:=lH hv
    have hb:(v==y)=false:=by rw [beq_eq_false_iff_ne];exact fun h=>hv h.symm
    clear hv
    go_wp2_with fail
    refine ⟨⟨k+1,by omega,by go_num,KW.out,fun j z hj hz=>?_⟩,by simp [intOf];omega⟩
    rcases Nat.lt_or_ge j k with h | h
    ·exact HNO.out j z h hz
    ·obtain rfl:j=k:=by omega
     rw [Option.some.inj (hz.symm.trans HY.out)]
     exact HV.out
  ·obtain rfl:k=n:=by omega
   have HC:Hid (decide ((0:Int)≤-1)=l.contains v):=lH (by
    have h1:l.contains v=false:=by
     cases hc:l.contains v with
     | false=>rfl
     | true =>
      rw [List.contains_iff_mem] at hc
      obtain ⟨j,hj⟩:=List.mem_iff_getElem?.1 hc
      exact absurd rfl (HNO.out j v (by rw [← HL.out];exact (List.getElem?_eq_some_iff.1 hj).1) hj)
    rw [h1];rfl)
   have KW:=lH kw
   clear kw hk hlt
   go_wp2_with fail
   go_ret
   exact ⟨-1,rfl,HC.out,KW.out⟩
theorem contains_i (a:Option Addr) (n c:Nat) (l:List Int) (v:Int) (w:World) (h:Sl 1 encI w a n l) (hn:n≤4000000000000000000) :
  Calls Tryz.prog 100 #[.slice a n c,.int .i64 v] w fun e w'=>e=.returned (.bool (l.contains v))∧Ex w w':=by
 go_enter Tryz.func100,Tryz.ntmps100
 go_wp2_with fail
 (with_reducible refine (index_i _ _ _ _ _ _ h hn).mono ?_)
 rintro e w1 ⟨r,rfl,hr,kk⟩
 have HR:=lH hr
 clear h hr
 go_wp2_with fail
 go_ret
 exact ⟨by rw [← HR.out];rfl,kk⟩
theorem wo1_p (gx:Nat) (a:Option Addr) (n c:Nat) (ids:List Int) (w:World) (hx:Blk w gx [.slice a n c] 22) (hs:Sl 1 encI w a n ids) (hn:n≤4000000000000000000) :
  PredG 102 #[.pointer (some ⟨gx,0,none⟩)] (fun x=>ids.contains x.id) w:=by
 intro x w' kk
 have hg:=(hx.nx kk).lt
 have hne:¬ gx=w'.heap.size:=by omega
 have k2:=Ex.new w' (.cells #[.int .i64 x.id,.string x.key,.int .u32 x.word] 36)
 have S2:=lH ((hs.nx kk).nx k2)
 have K2:=lH k2
 have q0:=(hx.nx kk).cell 0 _ rfl
 unfold Nd.val
 clear hx kk hs k2
 go_enter Tryz.func102,Tryz.ntmps102
 go_wp2_with fail
 (with_reducible refine (contains_i _ _ _ _ _ _ S2.out hn).mono ?_)
 rintro e w1 ⟨rfl,k3⟩
 have K3:=lH (K2.out.nx k3)
 clear k3
 go_wp2_with fail
 go_ret
 exact ⟨by simp,K3.out⟩
theorem own_setc {base:Nat} {w:World} {g m cap j:Nat} {L:List Nd} (h:OwnL 3 encN 36 base w (.slice (some ⟨g,0,none⟩) m cap) L) (v:Value) (hj:m*3≤j) :
  OwnL 3 encN 36 base (w.setCell ⟨g,j,none⟩ v) (.slice (some ⟨g,0,none⟩) m cap) L:=by
 rcases h.2 with ⟨h1,_⟩ | ⟨g',cap',cur,e1,e2,e3,e4,e5,e6,e7⟩
 ·cases h1
 ·obtain ⟨rfl,hLn,rfl⟩:g=g'∧m=L.length∧cap=cap':=by simpa using e1
  refine ⟨h.1,.inr ⟨g,cap,_,e1,e2,heap_set e3 j v,e4,e5,by simp [e6],?_⟩⟩
  rw [← e7,Array.toList_setIfInBounds,List.take_set_of_le (by rw [← hLn];exact hj)]
theorem own_setcs {base:Nat} {g m cap:Nat} {L:List Nd}:∀ (vs:List Value) (w:World) (j:Nat),m*3≤j→OwnL 3 encN 36 base w (.slice (some ⟨g,0,none⟩) m cap) L →
  OwnL 3 encN 36 base (w.setCells g j vs) (.slice (some ⟨g,0,none⟩) m cap) L
 | [],_,_,_,h=>h
 | v::vs,w,j,hj,h=>own_setcs vs _ (j+1) (by omega) (own_setc h v hj)
theorem ex_setcs {g:Nat} {w0:World} (hg:w0.heap.size≤g):∀ (vs:List Value) (w:World) (j:Nat),Ex w0 w→Ex w0 (w.setCells g j vs)
 | [],_,_,h=>h
 | v::vs,w,j,h=>ex_setcs hg vs _ (j+1) (h.setNew (p:=⟨g,j,none⟩) v hg)
theorem own_cutn {base:Nat} {w:World} {g n m cap:Nat} {L:List Nd} (h:OwnL 3 encN 36 base w (.slice (some ⟨g,0,none⟩) n cap) L) (hm:m≤L.length) :
  OwnL 3 encN 36 base w (.slice (some ⟨g,0,none⟩) m cap) (L.take m):=by
 have hml:(L.take m).length=m:=by rw [List.length_take];omega
 rcases h.2 with ⟨h1,_⟩ | ⟨g',cap',cur,e1,e2,e3,e4,e5,e6,e7⟩
 ·cases h1
 ·obtain ⟨rfl,hLn,rfl⟩:g=g'∧n=L.length∧cap=cap':=by simpa using e1
  refine ⟨by rw [flatN_len (sz:=3) (fun _=>rfl)],.inr ⟨g,cap,cur,by simp [hml],e2,e3,by omega,e5,e6,?_⟩⟩
  rw [hml,flatN_take (sz:=3) (fun _=>rfl),← e7,List.take_take,Nat.min_eq_left (Nat.mul_le_mul_right _ hm)]
theorem own_cell {base:Nat} {w:World} {g n cap:Nat} {L:List Nd} (h:OwnL 3 encN 36 base w (.slice (some ⟨g,0,none⟩) n cap) L) (j:Nat) (hj:j<n*3):(w.cell? ⟨g,j,none⟩).isSome=true∧w.frozen? ⟨g,j,none⟩=false:=by
 rcases h.2 with ⟨h1,_⟩ | ⟨g',cap',cur,e1,e2,e3,e4,e5,e6,e7⟩
 ·cases h1
 ·obtain ⟨rfl,hLn,rfl⟩:g=g'∧n=L.length∧cap=cap':=by simpa using e1
  have hsz:j<cur.size:=by rw [e6];omega
  exact ⟨by simp [World.cell?,e3,hsz],by simp [World.frozen?,e3]⟩
theorem Tryz.zeroN (w:World):(zeroValue 36).run Tryz.prog w=.ok (.agg #[.int .i64 0,.string ⟨#[]⟩,.int .u32 0]) w:=by kernel_rfl
theorem run_clear_row {base:Nat} {w:World} {g n m cap c':Nat} {L:List Nd} (h:OwnL 3 encN 36 base w (.slice (some ⟨g,0,none⟩) n cap) L) (hm:m<n) (ty:TypeId) :
  ∃ vs,(Builtin.clear_ #[25] ty #[.slice (some ⟨g,m*3,none⟩) (n-m) c']).run Tryz.prog w=.ok (.tuple #[]) (w.setCells g (m*3) vs):=by
 obtain ⟨vs,hvs⟩:∃ vs,vs=(Builtin.zeroCells (Value.cells (.agg #[.int .i64 0,.string ⟨#[]⟩,.int .u32 0])) (n-m)).toList:=⟨_,rfl⟩
 have hcells:(Value.cells (.agg #[.int .i64 0,.string ⟨#[]⟩,.int .u32 0]))=#[.int .i64 0,.string ⟨#[]⟩,.int .u32 0]:=rfl
 have hl:vs.length=(n-m)*3:=by rw [hvs,hcells];simp [Builtin.zeroCells]
 have h1:∀ v∈vs,v.oneCell'=true:=by
  intro v hv
  rw [hvs,hcells] at hv
  simp only [Builtin.zeroCells,Array.toList_map,List.mem_map] at hv
  obtain ⟨i,_,rfl⟩:=hv
  have hi:i % 3<3:=Nat.mod_lt _ (by omega)
  show ((#[Value.int .i64 0,.string ⟨#[]⟩,.int .u32 0]:Array Value)[i % 3]!).oneCell'=true
  generalize i % 3=q at hi
  match q,hi with
  | 0,_=>rfl
  | 1,_=>rfl
  | 2,_=>rfl
 have hst:=run_storeCells_cells (P:=Tryz.prog) g (m*3) vs 0 w (by intro j hj;rw [hl] at hj;exact (own_cell h _ (by omega)).1) (by intro j hj;rw [hl] at hj;exact (own_cell h _ (by omega)).2) h1
 simp only [Nat.add_zero] at hst
 obtain ⟨q,hq⟩:∃ q,n-m=q+1:=⟨n-m-1,by omega⟩
 refine ⟨vs,?_⟩
 rw [hq] at hvs ⊢
 simp [Builtin.clear_,run_underlying Tryz.underlying25,Tryz.zeroN,← hvs,hst]
def DlRel (l:List Nd) (p:Nd→Bool) (g cap base n:Nat) (w:World) (i j:Value) (wr:World):Prop :=
 ∃ (k:Nat) (X:List Nd),k≤n∧j=.int .i64 k∧i=.int .i64 (((l.take k).filter fun x=>!p x).length:Nat)∧((l.take k).filter fun x=>!p x).length<k∧X.length=n ∧
  X.take ((l.take k).filter fun x=>!p x).length=(l.take k).filter (fun x=>!p x)∧X.drop k=l.drop k∧OwnL 3 encN 36 base wr (.slice (some ⟨g,0,none⟩) n cap) X∧Ex w wr
theorem filt_snoc (l:List Nd) (q:Nd→Bool) (k:Nat) (y:Nd) (hy:l[k]?=some y):(l.take (k+1)).filter q=(l.take k).filter q++(if q y=true then [y] else []):=by
 rw [List.take_add_one,hy,List.filter_append]
 congr 1
 simp only [Option.toList_some,List.filter_cons,List.filter_nil]
theorem set_mid {X:List Nd} {i k:Nat} {Y Z:List Nd} {y:Nd} (h1:X.take i=Y) (h2:X.drop k=Z) (hl:Y.length=i) (hi:i<k) (hk:k<X.length):(X.set i y).take (i+1)=Y++[y]∧(X.set i y).drop (k+1)=Z.drop 1:=by
 refine ⟨?_,?_⟩
 ·rw [List.take_set,List.take_succ_eq_append_getElem (by omega),h1,List.set_append_right _ _ (by omega),hl,Nat.sub_self]
  rfl
 ·rw [List.drop_set_of_lt (by omega),← h2,List.drop_drop]
theorem idx_filter {l:List Nd} {p:Nd→Bool} {k:Nat} (hno:∀ j z,j<k→l[j]?=some z→p z=false):(l.take k).filter (fun x=>!p x)=l.take k:=by
 rw [List.filter_eq_self]
 intro x hx
 obtain ⟨j,hj⟩:=List.mem_iff_getElem?.1 hx
 rw [List.getElem?_take] at hj
 split at hj
 ·rw [hno j x (by assumption) hj];rfl
 ·cases hj
theorem idxB_cases (l:List Nd) (p:Nd→Bool):(∃ (k:Nat) (y:Nd),idxB p l=k∧k<l.length∧l[k]?=some y∧p y=true∧(l.take k).filter (fun x=>!p x)=l.take k)∨(idxB p l = -1∧l.filter (fun x=>!p x)=l):=by
 unfold idxB
 by_cases h:l.findIdx p<l.length
 ·refine .inl ⟨l.findIdx p,l[l.findIdx p],by rw [if_pos h],h,List.getElem?_eq_getElem h,List.findIdx_getElem,idx_filter (fun j z hj hz=>?_)⟩
  have:=List.not_of_lt_findIdx hj
  rw [List.getElem?_eq_getElem (by omega)] at hz
  cases hz
  simpa using this
 ·refine .inr ⟨by rw [if_neg h],?_⟩
  rw [List.filter_eq_self]
  intro x hx
  cases hp:p x with
  | false=>rfl
  | true=>exact absurd (List.findIdx_lt_length.2 ⟨x,hx,hp⟩) h
def NdPost (l:List Nd) (base:Nat) (w:World) (e:Ending) (w':World):Prop:=∃ v:Value,e=.returned v∧OwnL 3 encN 36 base w' v l∧Ex w w'
set_option maxRecDepth 100000 in
set_option maxHeartbeats 4000000 in
theorem delete_n (gf:Nat) (lb:Array Value) (p:Nd→Bool) (eg:∀ args w,(callFunc gf args).run Tryz.prog w=.ok (.enter gf args) w) (v:Value) (l:List Nd) (w0 w:World) (h:OwnL 3 encN 36 w0.heap.size w v l) (hn:l.length≤1000) (k0:Ex w0 w) (hp:PredG gf lb p w0) :
  Calls Tryz.prog 101 #[v,.func (.func gf) #[] lb] w (NdPost (l.filter fun x=>!p x) w0.heap.size w0):=by
 obtain ⟨a,cap,rfl,S,hc,hm,_⟩:=h.slf (fun _=>rfl)
 have HP:=lH hp
 have EG:=lH eg
 have H:=lH h
 have S:=lH S.sl
 have K0:=lH k0
 obtain ⟨n,hnl⟩:∃ n,n=l.length:=⟨_,rfl⟩
 rw [← hnl] at H S hc hn ⊢
 have HN:=lH hnl
 clear h hp eg k0 hnl
 go_enter Tryz.func101,Tryz.ntmps101
 go_wp2_with fail
 (with_reducible refine (idxf_n gf lb p EG.out _ _ _ _ _ S.out (by omega) (HP.out.nx K0.out)).mono ?_)
 rintro e w1 ⟨rfl,kk⟩
 have K1:=lH (K0.out.nx kk)
 have H1:=lH (H.out.nx kk)
 clear kk H S K0
 rcases idxB_cases l p with ⟨q,y0,hq,hql,hy0,hpy,hf0⟩ | ⟨hq,hf⟩
 ·rw [hq]
  rw [← HN.out] at hql
  rcases H1.out.2 with ⟨he,_⟩ | ⟨g,cap',cur,e1,e2,_⟩
  ·simp only [Value.slice.injEq] at he
   omega
  ·obtain ⟨rfl,hx0,rfl⟩:a=some ⟨g,0,none⟩∧n=l.length∧cap=cap':=by simpa using e1
   clear hx0
   have hF:(l.take (q+1)).filter (fun x=>!p x)=l.take q:=by rw [filt_snoc _ _ _ _ hy0,hf0,hpy];simp
   have hFl:((l.take (q+1)).filter (fun x=>!p x)).length=q:=by rw [hF,List.length_take,← HN.out];omega
   have RR:=lH (show DlRel l p g cap w0.heap.size n w0 (.int .i64 q) (.int .i64 ((q:Int)+1)) w1 from
    ⟨q+1,l,by omega,by go_num,by rw [hFl],by rw [hFl];omega,HN.out.symm,by rw [hFl,hF],rfl,H1.out,K1.out⟩)
   have q0:¬ (q:Int) = -1:=by omega
   have q1:((q:Int)==-1)=false:=by rw [beq_eq_false_iff_ne];omega
   have HG:=lH e2
   clear hq hy0 hpy hf0 hF hFl e1 e2 H1 K1
   go_wp2_with fail
   go_loopw [5,6] (fun i j wr=>DlRel l p g cap w0.heap.size n w0 i j wr) (fun _ j _=>n-(intOf j).toNat)
   case atStart=>exact RR.out
   case round =>
    clear RR
    obtain ⟨k,X,hk,rfl,rfl,hik,hX,hXt,hXd,own,kw⟩:=hrel
    obtain ⟨wo,rfl⟩:∃ wo:World,wo=wr:=⟨_,rfl⟩
    obtain ⟨i,hi⟩:∃ i,i=((l.take k).filter fun x=>!p x).length:=⟨_,rfl⟩
    rw [← hi] at hik hXt ⊢
    have HI:=lH hi
    have KW:=lH kw
    by_cases hlt:k<n
    ·obtain ⟨y,hy⟩:∃ y,l[k]?=some y:=⟨l[k]'(by rw [← HN.out];exact hlt),by simp⟩
     have hXy:X[k]?=some y:=by
      have h1:=congrArg (·[0]?) hXd
      simpa [List.getElem?_drop,hy] using h1
     have hs:Sl 3 encN wo (some ⟨g,0,none⟩) n X:=by
      obtain ⟨_,_,e5,s5,_⟩:=own.slf (fun _=>rfl)
      rw [hX] at e5 s5
      cases e5
      exact s5.sl
     obtain ⟨x1,o1,y',he,hx1,hy',hc1⟩:=hs.at hlt
     cases he
     obtain rfl:y=y':=Option.some.inj (hXy.symm.trans hy')
     have e0:wo.cell? ⟨g,0+k*3,none⟩=some (.int .i64 y.id):=hc1 0 _ rfl
     have e1:wo.cell? ⟨g,0+k*3+1,none⟩=some (.string y.key):=hc1 1 _ rfl
     have e2:wo.cell? ⟨g,0+k*3+1+1,none⟩=some (.int .u32 y.word):=by simpa [Nat.add_assoc] using hc1 2 _ rfl
     rw [Nat.zero_add] at e0 e1 e2
     have k7:=Ex.new wo (.cells #[.int .i64 y.id,.string y.key,.int .u32 y.word] 36)
     have B7:=Blk.new wo [.int .i64 y.id,.string y.key,.int .u32 y.word] 36
     obtain ⟨w2,hw2⟩:∃ w2,w2=wo.alloc (.cells #[.int .i64 y.id,.string y.key,.int .u32 y.word] 36):=⟨_,rfl⟩
     obtain ⟨g7,hg7⟩:∃ g7,g7=wo.heap.size:=⟨_,rfl⟩
     have B7:Blk w2 g7 [.int .i64 y.id,.string y.key,.int .u32 y.word] 36:=by rw [hw2,hg7];exact B7
     rw [← hw2] at k7
     have hg7b:w0.heap.size≤g7:=by rw [hg7];exact kw.size
     have hne7:¬ g=g7:=by rw [hg7];omega
     have hc:=HP.out y w2 (kw.nx k7)
     unfold Nd.val at hc
     have own2:=own.nx k7
     have c0:=B7.cell 0 _ rfl
     have c1:=B7.cell 1 _ rfl
     have c2:=B7.cell 2 _ rfl
     have KW2:=lH (kw.nx k7)
     have HW2:=lH hw2
     have HG7:=lH hg7
     have FSn:=lH (filt_snoc l (fun x=>!p x) k y hy)
     have hXd1:l.drop (k+1)=(l.drop k).drop 1:=by rw [List.drop_drop]
     have HXT:=lH hXt
     have HXD:=lH hXd
     have HXD1:=lH hXd1
     have HX:=lH hX
     have OWN2:=lH own2
     have hilen:=lH hi.symm
     clear hi hs hc1 hy hXy hy' k7 hw2 hg7 own own2 kw hXt hXd hXd1 hX
     go_upto_region 8 with fail
     rw [← HG7.out,← HW2.out]
     have eg:=EG.out
     go_wp2_with fail
     refine hc.mono ?_
     rintro e w3 ⟨rfl,k3⟩
     have K3:=lH (KW2.out.nx k3)
     have own3:=OWN2.out.nx k3
     have B8:=B7.nx k3
     have c0:=B8.cell 0 _ rfl
     have c1:=B8.cell 1 _ rfl
     have c2:=B8.cell 2 _ rfl
     clear hc k3 e0 e1 e2 B7 OWN2 eg
     cases hb:p y with
     | true =>
      have F1:(l.take (k+1)).filter (fun x=>!p x)=(l.take k).filter (fun x=>!p x):=by rw [FSn.out];simp [hb]
      have RZ:=lH (show DlRel l p g cap w0.heap.size n w0 (.int .i64 (i:Nat)) (.int .i64 ((k:Int)+1)) w3 from
       ⟨k+1,X,by omega,by go_num,by rw [F1,HI.out],by rw [F1,← HI.out];omega,HX.out,by rw [F1,← HI.out];exact HXT.out,by rw [HXD1.out,← HXD.out,List.drop_drop],own3,K3.out⟩)
      clear F1 own3 hb B8 c0 c1 c2
      go_wp2_with fail
      exact ⟨RZ.out,by simp [intOf];omega⟩
     | false =>
      have F1:(l.take (k+1)).filter (fun x=>!p x)=(l.take k).filter (fun x=>!p x)++[y]:=by rw [FSn.out];simp [hb]
      have F1l:((l.take (k+1)).filter (fun x=>!p x)).length=i+1:=by rw [F1,List.length_append,← HI.out];rfl
      obtain ⟨⟨va,vb,vc,d0,d1,d2⟩,fz,OS⟩:=own_set3 own3 (j:=i) (by omega) y
      obtain ⟨s1,s2⟩:=set_mid (y:=y) HXT.out HXD.out hilen.out hik (by rw [HX.out];exact hlt)
      have hgw:w0.heap.size≤g:=HG.out
      have RZ:=lH (show DlRel l p g cap w0.heap.size n w0 (.int .i64 ((i:Int)+1)) (.int .i64 ((k:Int)+1)) (((w3.setCell ⟨g,i*3,none⟩ (.int .i64 y.id)).setCell ⟨g,i*3+1,none⟩ (.string y.key)).setCell ⟨g,i*3+2,none⟩ (.int .u32 y.word)) from
       ⟨k+1,X.set i y,by omega,by go_num,by rw [F1l];go_num,by rw [F1l];omega,by rw [List.length_set];exact HX.out,by rw [F1l,s1,F1],by rw [s2,HXD1.out],OS,
        ((K3.out.setNew (p:=⟨g,i*3,none⟩) _ hgw).setNew (p:=⟨g,i*3+1,none⟩) _ hgw).setNew (p:=⟨g,i*3+2,none⟩) _ hgw⟩)
      have z0:=fz (i*3)
      have z1:=fz (i*3+1)
      have z2:=fz (i*3+1+1)
      clear F1 F1l own3 hb B8 OS s1 s2 fz
      go_wp2_with fail
      exact ⟨RZ.out,by simp [intOf];omega⟩
    ·obtain rfl:k=n:=by omega
     have hfl:l.take k=l:=List.take_of_length_le (by rw [← HN.out];exact Nat.le_refl _)
     rw [hfl] at hXt HI
     obtain ⟨vs,hcl⟩:=run_clear_row (c':=cap-i) own hik 0
     have hcl:∀ ty,(Builtin.clear_ #[25] ty #[.slice (some ⟨g,i*3,none⟩) (k-i) (cap-i)]).run Tryz.prog wo=.ok (.tuple #[]) (wo.setCells g (i*3) vs):=fun _=>hcl
     have O9:=lH (own_setcs vs wo (i*3) (Nat.le_refl _) (own_cutn own (m:=i) (by rw [hX];omega)))
     rw [hXt] at O9
     have K9:=lH (ex_setcs HG.out vs wo (i*3) KW.out)
     have hic:¬ cap=i:=by omega
     clear own kw hXd hX hXt hfl hk hlt hi
     go_wp2_with (simp only [hcl])
     go_ret
     exact ⟨_,rfl,O9.out,K9.out⟩
 ·rw [hq]
  have HF:=lH hf
  clear hq hf
  go_wp2_with fail
  go_ret
  exact ⟨_,rfl,by rw [HF.out,HN.out];rw [← HN.out];exact H1.out,K1.out⟩
def withoutN (l:List Nd) (ids:List Int):List Nd:=l.filter fun x=>!(ids.contains x.id)
set_option maxHeartbeats 1000000 in
theorem without_p (a:Option Addr) (n c:Nat) (l:List Nd) (a2:Option Addr) (n2 c2:Nat) (ids:List Int) (w:World) (h:Sl 3 encN w a n l) (hn:n≤1000) (h2:Sl 1 encI w a2 n2 ids) (hn2:n2≤4000000000000000000) :
  Calls Tryz.prog 35 #[.slice a n c,.slice a2 n2 c2] w (NdPost (withoutN l ids) w.heap.size w):=by
 have HL:=lH h.len
 have k1:=Ex.new w (.cells #[.slice a2 n2 c2] 22)
 have B1:=Blk.new w [.slice a2 n2 c2] 22
 obtain ⟨w1,hw1⟩:∃ w1,w1=w.alloc (.cells #[.slice a2 n2 c2] 22):=⟨_,rfl⟩
 obtain ⟨g,hg⟩:∃ g,g=w.heap.size:=⟨_,rfl⟩
 have B1:Blk w1 g [.slice a2 n2 c2] 22:=by rw [hw1,hg];exact B1
 rw [← hw1] at k1
 have HW1:=lH hw1
 have HG:=lH hg
 have PG:=lH (wo1_p g a2 n2 c2 ids w1 B1 (h2.nx k1) hn2)
 have eg:∀ args w,(callFunc 102 args).run Tryz.prog w=.ok (.enter 102 args) w:=enters_of Tryz.func102 (by kernel_rfl) rfl
 have EG:=lH eg
 have S1:=h.nx k1
 have K1:=lH k1
 clear h h2 hw1 hg B1 k1 eg
 go_enter Tryz.func35,Tryz.ntmps35
 go_upto_region 1 with fail
 rw [← HG.out,← HW1.out]
 go_wp2_with fail
 (with_reducible refine (clone_n _ _ _ _ _ S1 hn).mono ?_)
 rintro e w2 ⟨v,rfl,own,k2⟩
 clear S1
 go_wp2_with fail
 (with_reducible refine (delete_n _ _ _ EG.out v l w1 w2 own (by rw [HL.out];exact hn) k2 PG.out).mono ?_)
 rintro e w3 ⟨v3,rfl,own3,k3⟩
 have O3:=lH (OwnL.base own3 K1.out.size)
 have K3:=lH (K1.out.nx k3)
 clear own own3 k2 k3
 go_wp2_with fail
 go_ret
 exact ⟨_,rfl,O3.out,K3.out⟩
end Go.Proofs.YthcholmhmcpooaaGreatDoor
