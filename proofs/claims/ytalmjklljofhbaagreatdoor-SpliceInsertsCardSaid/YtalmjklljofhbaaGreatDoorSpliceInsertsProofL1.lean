/- Texts for SpliceInsertsProof. -/
import Derived.Test.YtalmjklljofhbaaGreatDoorSxAll23
set_option linter.unusedSimpArgs false
set_option linter.unusedVariables false

namespace Go.Proofs.YtalmjklljofhbaaGreatDoor
open Go.RowKit
set_option maxHeartbeats 1000000 in
theorem oddkey_t {b:Nat} (w:World) (h:TK w b) (hL:LetG w) (hgb:¬ 0=b):Calls Tryz.prog 33 #[.pointer (some ⟨b,0,none⟩)] w (KeyPost 65 b w):=by
 go_enter Tryz.func33,Tryz.ntmps33
 go_wp2_with fail
 refine (bool_t 10 _ h (by omega) (by omega)).mono ?_
 clear h
 rintro e w1 ⟨r,rfl,T,kk⟩
 have L1:=hL.nxb hgb kk
 clear hL
 cases r with
 | true =>
  go_wp2_with fail
  refine (next_t 6 _ T (by omega) (by omega)).mono ?_
  clear T
  rintro e w2 ⟨j,rfl,j0,j1,T,k2⟩
  obtain ⟨j,rfl⟩:=Int.eq_ofNat_of_zero_le j0
  obtain ⟨s,hs,hc⟩:=(L1.nxb hgb k2) j (by omega)
  have kk:=kk.nxb k2
  have HS:=lH hs
  clear hs k2 L1
  go_wp2_with fail
  refine (long_x s 65 _ HS.out (by omega)).mono ?_
  rintro e w3 ⟨⟨r,rfl,hr⟩,rfl⟩
  have HR:=lH hr
  clear hr
  go_wp2_with fail
  go_ret
  exact ⟨r,rfl,Nat.le_of_eq HR.out,T,kk⟩
 | false =>
  go_wp2_with fail
  refine (key_t _ T L1 hgb).mono ?_
  clear T
  rintro e w2 ⟨s,rfl,hs,T,k2⟩
  have kk:=kk.nxb k2
  clear k2 L1
  go_wp2_with fail
  go_ret
  exact ⟨s,rfl,by omega,T,kk⟩
structure OddOf (n b:Nat) (w w':World) (v:Value) (L:List Nd):Prop where
 own:OwnL 3 encN 49 w.heap.size w' v L
 len:L.length≤n+1
 pos:1≤L.length
 ok:∀ x∈L,NOk x
 tape:TK w' b
 k:Exb b w w'
theorem ok_set {L:List Nd} (h:∀ x∈L,NOk x) (j:Nat) {y:Nd} (hy:NOk y):∀ x∈L.set j y,NOk x:=fun x hx=>by
 rcases List.mem_or_eq_of_mem_set hx with h1 | rfl
 ·exact h x h1
 ·exact hy
theorem ok_snoc {L:List Nd} (h:∀ x∈L,NOk x) {y:Nd} (hy:NOk y):∀ x∈L++[y],NOk x:=fun x hx=>by
 rcases List.mem_append.1 hx with h1 | h1
 ·exact h x h1
 ·rw [List.mem_singleton.1 h1];exact hy
set_option maxRecDepth 100000 in
set_option maxHeartbeats 8000000 in
theorem oddroster_t {b:Nat} (a:Option Addr) (n cp:Nat) (l:List Nd) (w:World) (h:TK w b) (hs:Slb 3 encN b w a n l) (hnil:a=none→cp=0) (hn:n≤100) (hok:∀ x∈l,NOk x) (hL:LetG w) (hgb:¬ 0=b) :
  Calls Tryz.prog 13 #[.pointer (some ⟨b,0,none⟩),.slice a n cp] w fun e w'=>∃ v L,e=.returned v∧OddOf n b w w' v L:=by
 have OK:=lH hok
 have NIL:=lH hnil
 have hlen:=hs.len
 have hbw:=h.lt
 have own0:OwnL 3 encN 49 w.heap.size w (.slice none 0 0) []:=OwnL.nil _ _ _ _ _
 have s0:=hs.sl
 clear hok hnil
 go_enter Tryz.func13,Tryz.ntmps13
 go_upto_region 2 with (at_builtin;(refine wpList_append_rd (enc:=encN) w rfl (.const (.slice none 0 0)) (.tmp 6) 23 rfl w.heap.size 49 (.agg #[.int .i64 0,.string ByteArray.empty,.int .u32 0]) 3 32 Tryz.underlying23 Tryz.infoN rfl (by omega) (by omega) _ [] own0 rfl _ a n cp l s0 NIL.out (fun _=>rfl) (by simp [encN,Value.oneCell']) rfl (by simp) (by omega) (Nat.le_refl _) ?_);intro v1 w1 own1 ch0 ch1)
 rw [List.nil_append] at own1
 have k1:Ex w w1:=ch1
 replace h:=h.nx k1
 replace hL:=hL.nx k1
 have kk:=k1.b b
 obtain ⟨a1,c1,rfl,_,_,_,some1⟩:=own1.rd (fun _=>rfl)
 subst hlen
 have z1:=k1.size
 have k1:=lH k1
 clear own0 s0 hs ch0 ch1
 by_cases hn0:l.length=0
 ·have d0:((l.length:Int)==0)=true:=by rw [hn0];rfl
  have hl0:l=[]:=List.eq_nil_of_length_eq_zero hn0
  subst hl0
  have own1:OwnL 3 encN 49 w.heap.size w1 (.slice a1 0 c1) []:=own1
  clear some1 hn0
  go_wp2_with fail
  refine (pick_t (n:=3) (-1) 1 [0,1,-1] h rfl rfl rfl (by omega) (by omega) (by intro x hx;simp at hx;omega)).mono ?_
  clear h
  rintro e w2 ⟨r,rfl,r0,r1,T,k2⟩
  have own2:=own1.nxb hbw k2
  replace kk:=kk.nxb k2
  replace hL:=hL.nxb hgb k2
  clear own1 k2
  go_wp2_with fail
  refine (oddkey_t _ T hL hgb).mono ?_
  clear T
  rintro e w3 ⟨s,rfl,hsz,T,k2⟩
  have own3:=own2.nxb hbw k2
  replace kk:=kk.nxb k2
  clear own2 k2 hL
  go_wp2_with fail
  refine (pick_t (n:=2) (0) 65536 [0,65536] T rfl rfl rfl (by omega) (by omega) (by intro x hx;simp at hx;omega)).mono ?_
  clear T
  rintro e w4 ⟨m,rfl,m0,m1,T,k2⟩
  obtain ⟨m,rfl⟩:=Int.eq_ofNat_of_zero_le m0
  have hmw:IntKind.u32.wrap (m:Int)=(m:Int):=by rw [wrap_u32n];omega
  have own4:=own3.nxb hbw k2
  replace kk:=kk.nxb k2
  have z4:=kk.size
  clear own3 k2
  go_wp2_with (at_builtin;(refine wpList_append_lit (enc:=encN) w4 rfl _ _ 23 rfl w.heap.size 49 (.agg #[.int .i64 0,.string ByteArray.empty,.int .u32 0]) 3 32 Tryz.underlying23 Tryz.infoN rfl (by omega) (by omega) _ _ own4 rfl (⟨r,s,m⟩:Nd) _ rfl rfl (by simp [encN,Value.oneCell']) _ (by simp) rfl (by omega) (by omega) _ ?_);intro v9 w9 own9 ch0 ch1 _)
  go_ret
  exact ⟨v9,_,rfl,⟨own9,by simp,by simp,ok_snoc OK.out ⟨⟨by show _≤r;omega,by show r≤_;omega⟩,by show m<_;omega,hsz⟩,TP.chg T ch1 (fun x hx=>by omega),Chg.trans kk (ch1.mono (fun x hx=>hx.1))⟩⟩
 ·have d0:((l.length:Int)==0)=false:=beq_eq_false_iff_ne.2 (by omega)
  obtain ⟨g,rfl,hg⟩:=some1 (fun h0=>hn0 (by rw [h0];rfl))
  have hlp:0<l.length:=by omega
  have hgb':¬ g=b:=by omega
  have HN0:=lH hn0
  clear some1 hn0
  go_wp2_with fail
  refine (next_t (l.length:Int) _ h (by omega) (by omega)).mono ?_
  clear h
  rintro e w2 ⟨j,rfl,j0,j1,T,k2⟩
  obtain ⟨j,rfl⟩:=Int.eq_ofNat_of_zero_le j0
  have hjl:j<l.length:=by omega
  have hjl':(j:Int)<(l.length:Int):=by omega
  have own2:=own1.nxb hbw k2
  replace kk:=kk.nxb k2
  replace hL:=hL.nxb hgb k2
  obtain ⟨y,hy⟩:∃ y,l[j]?=some y:=⟨l[j],by simp⟩
  have hyok:=lH (OK.out y (List.mem_of_getElem? hy))
  have HY:=lH hy
  clear own1 k2 hy
  go_wp2_with fail
  refine (next_t 6 _ T (by omega) (by omega)).mono ?_
  clear T
  rintro e w3 ⟨r,rfl,r0,r1,T,k2⟩
  have own3:=own2.nxb hbw k2
  replace kk:=kk.nxb k2
  replace hL:=hL.nxb hgb k2
  clear own2 k2
  have hr:r=0∨r=1∨r=2∨r=3∨r=4∨r=5:=by omega
  clear r0 r1
  rcases hr with rfl | rfl | rfl | rfl | rfl | rfl
  ·go_wp2_with fail
   refine (pick_t (n:=5) (-9223372036854775808) 2147483648 [0,-1,2147483648,2147483647,-9223372036854775808] T rfl rfl rfl (by omega) (by omega) (by intro x hx;simp at hx;omega)).mono ?_
   clear T hL
   rintro e w4 ⟨m,rfl,m0,m1,T,k2⟩
   have own4:=own3.nxb hbw k2
   replace kk:=kk.nxb k2
   obtain ⟨q0,f0,OS⟩:=own_set1 (sz:=3) (enc:=encN) (c:=0) (fun _=>rfl) own4 HY.out (by omega)
   have q0:w4.cell? ⟨g,j*3,none⟩=some (.int .i64 y.id):=q0
   have f0:w4.frozen? ⟨g,j*3,none⟩=false:=f0
   have OS:=lH (OS ⟨m,y.key,y.word⟩ (.int .i64 m) rfl)
   clear own3 own4 k2
   go_wp2_with fail
   go_ret
   exact ⟨_,_,rfl,⟨OS.out,by simp,by rw [List.length_set];omega,ok_set OK.out j ⟨⟨by show _≤m;omega,by show m≤_;omega⟩,hyok.out.2.1,hyok.out.2.2⟩,T.set _ (by show b<g;omega),kk.setNew _ hg⟩⟩
  ·go_wp2_with fail
   refine (oddkey_t _ T hL hgb).mono ?_
   clear T hL
   rintro e w4 ⟨s,rfl,hsz,T,k2⟩
   have own4:=own3.nxb hbw k2
   replace kk:=kk.nxb k2
   obtain ⟨q0,f0,OS⟩:=own_set1 (sz:=3) (enc:=encN) (c:=1) (fun _=>rfl) own4 HY.out (by omega)
   have q0:w4.cell? ⟨g,j*3+1,none⟩=some (.string y.key):=q0
   have OS:=lH (OS ⟨y.id,s,y.word⟩ (.string s) rfl)
   clear own3 own4 k2
   go_wp2_with fail
   go_ret
   exact ⟨_,_,rfl,⟨OS.out,by simp,by rw [List.length_set];omega,ok_set OK.out j ⟨hyok.out.1,hyok.out.2.1,hsz⟩,T.set _ (by show b<g;omega),kk.setNew _ hg⟩⟩
  ·go_wp2_with fail
   refine (pick_t (n:=3) (0) 4294967295 [65536,4294967295,5] T rfl rfl rfl (by omega) (by omega) (by intro x hx;simp at hx;omega)).mono ?_
   clear T hL
   rintro e w4 ⟨m,rfl,m0,m1,T,k2⟩
   obtain ⟨m,rfl⟩:=Int.eq_ofNat_of_zero_le m0
   have hmw:IntKind.u32.wrap (m:Int)=(m:Int):=by rw [wrap_u32n];omega
   have own4:=own3.nxb hbw k2
   replace kk:=kk.nxb k2
   obtain ⟨q0,f0,OS⟩:=own_set1 (sz:=3) (enc:=encN) (c:=2) (fun _=>rfl) own4 HY.out (by omega)
   have q0:w4.cell? ⟨g,j*3+2,none⟩=some (.int .u32 y.word):=q0
   have OS:=lH (OS ⟨y.id,y.key,m⟩ (.int .u32 m) rfl)
   clear own3 own4 k2
   go_wp2_with fail
   go_ret
   exact ⟨_,_,rfl,⟨OS.out,by simp,by rw [List.length_set];omega,ok_set OK.out j ⟨hyok.out.1,by show m<_;omega,hyok.out.2.2⟩,T.set _ (by show b<g;omega),kk.setNew _ hg⟩⟩
  ·have e0:w3.cell? ⟨g,j*3,none⟩=some (.int .i64 y.id):=(own_set1 (sz:=3) (enc:=encN) (c:=0) (fun _=>rfl) own3 HY.out (by omega)).1
   have e1:w3.cell? ⟨g,j*3+1,none⟩=some (.string y.key):=(own_set1 (sz:=3) (enc:=encN) (c:=1) (fun _=>rfl) own3 HY.out (by omega)).1
   have e2:w3.cell? ⟨g,j*3+1+1,none⟩=some (.int .u32 y.word):=(own_set1 (sz:=3) (enc:=encN) (c:=2) (fun _=>rfl) own3 HY.out (by omega)).1
   have z4:=kk.size
   clear hL
   go_wp2_with (at_builtin;(refine wpList_append_lit (enc:=encN) w3 rfl _ _ 23 rfl w.heap.size 49 (.agg #[.int .i64 0,.string ByteArray.empty,.int .u32 0]) 3 32 Tryz.underlying23 Tryz.infoN rfl (by omega) (by omega) _ _ own3 rfl y _ rfl rfl (by simp [encN,Value.oneCell']) _ (by simp) rfl (by omega) (by omega) _ ?_);intro v9 w9 own9 ch0 ch1 _)
   go_ret
   exact ⟨v9,_,rfl,⟨own9,by simp,by simp,ok_snoc OK.out hyok.out,TP.chg T ch1 (fun x hx=>by omega),Chg.trans kk (ch1.mono (fun x hx=>hx.1))⟩⟩
  ·clear hL
   go_wp2_with fail
   have own4:OwnL 3 encN 49 w.heap.size w3.drew (.slice (some ⟨g,0,none⟩) l.length c1) l:=own3.nxb hbw (Exb.refl b w3).drew
   have T:TK w3.drew b:=T
   have kk:=kk.drew
   clear own3
   refine wp_region_held_drew (S:=fun _=>True) (by kernel_rfl) (trivial) (fun hHeld=>?_)
   refine tkH 0 (v:=?_) rfl (by kernel_rfl) (fun _ _ _ h=>h) (by rfl) ?y1x0q1 (by assumption) ?z1x0q1
   case y1x0q1=>intro wq hSw;(go_simp);(try with_reducible rfl)
   refine tkH 1 (v:=?_) rfl (by kernel_rfl) (fun _ _ _ h=>h) (by rfl) ?y1x1q4 (by assumption) ?z1x1q4
   case y1x1q4=>intro wq hSw;(go_simp);(try with_reducible rfl)
   refine tkH 4 (v:=?_) rfl (by kernel_rfl) (fun _ _ _ h=>h) (by rfl) ?y1x4q7 (by assumption) ?z1x4q7
   case y1x4q7=>intro wq hSw;(go_simp);(try with_reducible rfl)
   refine tkH 5 (v:=?_) rfl (by kernel_rfl) (fun _ _ _ h=>h) (by rfl) ?y1x5q10 (by assumption) ?z1x5q10
   case y1x5q10=>intro wq hSw;(go_simp);(try with_reducible rfl)
   refine tkH 6 (v:=?_) rfl (by kernel_rfl) (fun _ _ _ h=>h) (by rfl) ?y1x6q13 (by assumption) ?z1x6q13
   case y1x6q13=>intro wq hSw;(go_simp);(try with_reducible rfl)
   refine wpAnyH_ready (rs:=[2,7]) (by kernel_rfl) (by simp) ?_
   refine AllReadyH.cons (o:=⟨_,_,_,_,_,_⟩) rfl (fun K hK=>?_) ?_
   ·go_simp
    (refine (next_t 50 _ T (by omega) (by omega)).mono ?_)
    clear T
    rintro e w5 ⟨m,rfl,m0,m1,T,k2⟩
    have mw:IntKind.i64.wrap (1+m)=1+m:=IntWalk.i64_in _ (by omega)
    replace own4:=own4.nxb hbw k2
    replace kk:=kk.nxb k2
    clear k2
    refine hK.out _ _ (trivial) (fun hHeld=>?_)
    clear hK K
    refine tkH 3 (v:=?_) rfl (by kernel_rfl) (fun _ _ _ h=>h) (by rfl) ?y1x3q29 (by assumption) ?z1x3q29
    case y1x3q29=>intro wq hSw;(go_simp);(try with_reducible rfl)
    refine wpAnyH_ready (rs:=[7]) (by kernel_rfl) (by simp) ?_
    refine AllReadyH.cons (o:=⟨_,_,_,_,_,_⟩) rfl (fun K hK=>?_) AllReadyH.nil
    have e1:World.cell? _ ⟨g,j*3+1,none⟩=some (.string y.key):=(own_set1 (sz:=3) (enc:=encN) (c:=1) (fun _=>rfl) own4 HY.out (by omega)).1
    go_simp
    clear e1
    refine hK.out _ _ (trivial) (fun hHeld=>?_)
    clear hK K
    refine tkH 8 (v:=?_) rfl (by kernel_rfl) (fun _ _ _ h=>h) (by rfl) ?y1x8q40 (by assumption) ?z1x8q40
    case y1x8q40=>intro wq hSw;(go_simp);(try with_reducible rfl)
    refine wpAnyH_ready (rs:=[9]) (by kernel_rfl) (by simp) ?_
    refine AllReadyH.cons (o:=⟨_,_,_,_,_,_⟩) rfl (fun K hK=>?_) AllReadyH.nil
    have z5:=kk.size
    have SX:Sl 3 encN (w5.alloc (.cells #[.int .i64 (1+m),.string y.key,.int .u32 0] 49)) (some ⟨w5.heap.size,0,none⟩) 1 [(⟨1+m,y.key,0⟩:Nd)]:=Sl.lit _ rfl rfl (fun _=>rfl) rfl
    go_simp
    have k6:=Ex.new w5 (.cells #[.int .i64 (1+m),.string y.key,.int .u32 0] 49)
    replace own4:=own4.nx k6
    replace kk:=kk.nxb (k6.b b)
    replace T:=T.nx k6
    clear k6
    refine hK.out _ _ (trivial) (fun hHeld=>?_)
    clear hK K
    refine wpAnyH_ready (rs:=[10]) (by kernel_rfl) (by simp) ?_
    refine AllReadyH.cons (o:=⟨_,_,_,_,_,_⟩) rfl (fun K hK=>?_) AllReadyH.nil
    rw [if_pos (by rfl)]
    have z6:=kk.size
    refine wp_append_rd (enc:=encN) _ (.tmp 76) (.tmp 85) 23 rfl w.heap.size 49 (.agg #[.int .i64 0,.string ByteArray.empty,.int .u32 0]) 3 32 Tryz.underlying23 Tryz.infoN rfl (by omega) (by omega) _ l own4 rfl _ _ 1 1 [_] SX (fun h=>by cases h) (fun _=>rfl) (by simp [encN,Value.oneCell']) rfl (by omega) (by omega) z6 ?_
    intro v9 w9 own9 ch0 ch1
    refine hK.out _ _ (trivial) (fun hHeld=>?_)
    clear hK K
    refine tkH 11 (v:=?_) rfl (by kernel_rfl) (fun _ _ _ h=>h) (by rfl) ?y1x11q65 (by assumption) ?z1x11q65
    case y1x11q65=>intro wq hSw;(go_simp);(try with_reducible rfl)
    refine wpAnyH_done (by kernel_rfl) ?_ _
    go_wp2_with fail
    go_ret
    exact ⟨v9,_,rfl,⟨own9,by simp,by simp,ok_snoc OK.out ⟨⟨by show _≤1+m;omega,by show 1+m≤_;omega⟩,by show 0<_;omega,hyok.out.2.2⟩,TP.chg T ch1 (fun x hx=>by omega),Chg.trans kk (ch1.mono (fun x hx=>hx.1))⟩⟩
   refine AllReadyH.cons (o:=⟨_,_,_,_,_,_⟩) rfl (fun K hK=>?_) AllReadyH.nil
   ·have e1:World.cell? _ ⟨g,j*3+1,none⟩=some (.string y.key):=(own_set1 (sz:=3) (enc:=encN) (c:=1) (fun _=>rfl) own4 HY.out (by omega)).1
    go_simp
    clear e1
    refine hK.out _ _ (trivial) (fun hHeld=>?_)
    clear hK K
    refine wpAnyH_ready (rs:=[2]) (by kernel_rfl) (by simp) ?_
    refine AllReadyH.cons (o:=⟨_,_,_,_,_,_⟩) rfl (fun K hK=>?_) AllReadyH.nil
    go_simp
    (refine (next_t 50 _ T (by omega) (by omega)).mono ?_)
    clear T
    rintro e w5 ⟨m,rfl,m0,m1,T,k2⟩
    have mw:IntKind.i64.wrap (1+m)=1+m:=IntWalk.i64_in _ (by omega)
    replace own4:=own4.nxb hbw k2
    replace kk:=kk.nxb k2
    clear k2
    refine hK.out _ _ (trivial) (fun hHeld=>?_)
    clear hK K
    refine tkH 3 (v:=?_) rfl (by kernel_rfl) (fun _ _ _ h=>h) (by rfl) ?y1x3q90 (by assumption) ?z1x3q90
    case y1x3q90=>intro wq hSw;(go_simp);(try with_reducible rfl)
    refine tkH 8 (v:=?_) rfl (by kernel_rfl) (fun _ _ _ h=>h) (by rfl) ?y1x8q93 (by assumption) ?z1x8q93
    case y1x8q93=>intro wq hSw;(go_simp);(try with_reducible rfl)
    refine wpAnyH_ready (rs:=[9]) (by kernel_rfl) (by simp) ?_
    refine AllReadyH.cons (o:=⟨_,_,_,_,_,_⟩) rfl (fun K hK=>?_) AllReadyH.nil
    have z5:=kk.size
    have SX:Sl 3 encN (w5.alloc (.cells #[.int .i64 (1+m),.string y.key,.int .u32 0] 49)) (some ⟨w5.heap.size,0,none⟩) 1 [(⟨1+m,y.key,0⟩:Nd)]:=Sl.lit _ rfl rfl (fun _=>rfl) rfl
    go_simp
    have k6:=Ex.new w5 (.cells #[.int .i64 (1+m),.string y.key,.int .u32 0] 49)
    replace own4:=own4.nx k6
    replace kk:=kk.nxb (k6.b b)
    replace T:=T.nx k6
    clear k6
    refine hK.out _ _ (trivial) (fun hHeld=>?_)
    clear hK K
    refine wpAnyH_ready (rs:=[10]) (by kernel_rfl) (by simp) ?_
    refine AllReadyH.cons (o:=⟨_,_,_,_,_,_⟩) rfl (fun K hK=>?_) AllReadyH.nil
    rw [if_pos (by rfl)]
    have z6:=kk.size
    refine wp_append_rd (enc:=encN) _ (.tmp 76) (.tmp 85) 23 rfl w.heap.size 49 (.agg #[.int .i64 0,.string ByteArray.empty,.int .u32 0]) 3 32 Tryz.underlying23 Tryz.infoN rfl (by omega) (by omega) _ l own4 rfl _ _ 1 1 [_] SX (fun h=>by cases h) (fun _=>rfl) (by simp [encN,Value.oneCell']) rfl (by omega) (by omega) z6 ?_
    intro v9 w9 own9 ch0 ch1
    refine hK.out _ _ (trivial) (fun hHeld=>?_)
    clear hK K
    refine tkH 11 (v:=?_) rfl (by kernel_rfl) (fun _ _ _ h=>h) (by rfl) ?y1x11q118 (by assumption) ?z1x11q118
    case y1x11q118=>intro wq hSw;(go_simp);(try with_reducible rfl)
    refine wpAnyH_done (by kernel_rfl) ?_ _
    go_wp2_with fail
    go_ret
    exact ⟨v9,_,rfl,⟨own9,by simp,by simp,ok_snoc OK.out ⟨⟨by show _≤1+m;omega,by show 1+m≤_;omega⟩,by show 0<_;omega,hyok.out.2.2⟩,TP.chg T ch1 (fun x hx=>by omega),Chg.trans kk (ch1.mono (fun x hx=>hx.1))⟩⟩
  ·go_wp2_with fail
   have own4:OwnL 3 encN 49 w.heap.size w3.drew (.slice (some ⟨g,0,none⟩) l.length c1) l:=own3.nxb hbw (Exb.refl b w3).drew
   have T:TK w3.drew b:=T
   have kk:=kk.drew
   have hL:=hL.nxb hgb (Exb.refl b w3).drew
   clear own3
   refine wp_region_held_drew (S:=fun _=>True) (by kernel_rfl) (trivial) (fun hHeld=>?_)
   refine tkH 0 (v:=?_) rfl (by kernel_rfl) (fun _ _ _ h=>h) (by rfl) ?y2x0q1 (by assumption) ?z2x0q1
   case y2x0q1=>intro wq hSw;(go_simp);(try with_reducible rfl)
   refine tkH 1 (v:=?_) rfl (by kernel_rfl) (fun _ _ _ h=>h) (by rfl) ?y2x1q4 (by assumption) ?z2x1q4
   case y2x1q4=>intro wq hSw;(go_simp);(try with_reducible rfl)
   refine tkH 2 (v:=?_) rfl (by kernel_rfl) (fun _ _ _ h=>h) (by rfl) ?y2x2q7 (by assumption) ?z2x2q7
   case y2x2q7=>intro wq hSw;(go_simp);(try with_reducible rfl)
   refine tkH 3 (v:=?_) rfl (by kernel_rfl) (fun _ _ _ h=>h) (by rfl) ?y2x3q10 (by assumption) ?z2x3q10
   case y2x3q10=>intro wq hSw;(go_simp);(try with_reducible rfl)
   refine tkH 5 (v:=?_) rfl (by kernel_rfl) (fun _ _ _ h=>h) (by rfl) ?y2x5q13 (by assumption) ?z2x5q13
   case y2x5q13=>intro wq hSw;(go_simp);(try with_reducible rfl)
   refine wpAnyH_ready (rs:=[4,6]) (by kernel_rfl) (by simp) ?_
   refine AllReadyH.cons (o:=⟨_,_,_,_,_,_⟩) rfl (fun K hK=>?_) ?_
   ·have e1:World.cell? _ ⟨g,j*3,none⟩=some (.int .i64 y.id):=(own_set1 (sz:=3) (enc:=encN) (c:=0) (fun _=>rfl) own4 HY.out (by omega)).1
    go_simp
    clear e1
    refine hK.out _ _ (trivial) (fun hHeld=>?_)
    clear hK K
    refine wpAnyH_ready (rs:=[6]) (by kernel_rfl) (by simp) ?_
    refine AllReadyH.cons (o:=⟨_,_,_,_,_,_⟩) rfl (fun K hK=>?_) AllReadyH.nil
    go_simp
    (refine (key_t _ T hL hgb).mono ?_)
    clear T hL
    rintro e w5 ⟨s,rfl,hsz,T,k2⟩
    replace own4:=own4.nxb hbw k2
    replace kk:=kk.nxb k2
    clear k2
    refine hK.out _ _ (trivial) (fun hHeld=>?_)
    clear hK K
    refine tkH 7 (v:=?_) rfl (by kernel_rfl) (fun _ _ _ h=>h) (by rfl) ?y2x7q36 (by assumption) ?z2x7q36
    case y2x7q36=>intro wq hSw;(go_simp);(try with_reducible rfl)
    refine wpAnyH_ready (rs:=[8]) (by kernel_rfl) (by simp) ?_
    refine AllReadyH.cons (o:=⟨_,_,_,_,_,_⟩) rfl (fun K hK=>?_) AllReadyH.nil
    have z5:=kk.size
    have SX:Sl 3 encN (w5.alloc (.cells #[.int .i64 y.id,.string s,.int .u32 0] 49)) (some ⟨w5.heap.size,0,none⟩) 1 [(⟨y.id,s,0⟩:Nd)]:=Sl.lit _ rfl rfl (fun _=>rfl) rfl
    go_simp
    have k6:=Ex.new w5 (.cells #[.int .i64 y.id,.string s,.int .u32 0] 49)
    replace own4:=own4.nx k6
    replace kk:=kk.nxb (k6.b b)
    replace T:=T.nx k6
    clear k6
    refine hK.out _ _ (trivial) (fun hHeld=>?_)
    clear hK K
    refine wpAnyH_ready (rs:=[9]) (by kernel_rfl) (by simp) ?_
    refine AllReadyH.cons (o:=⟨_,_,_,_,_,_⟩) rfl (fun K hK=>?_) AllReadyH.nil
    rw [if_pos (by rfl)]
    have z6:=kk.size
    refine wp_append_rd (enc:=encN) _ (.tmp 32) (.tmp 40) 23 rfl w.heap.size 49 (.agg #[.int .i64 0,.string ByteArray.empty,.int .u32 0]) 3 32 Tryz.underlying23 Tryz.infoN rfl (by omega) (by omega) _ l own4 rfl _ _ 1 1 [_] SX (fun h=>by cases h) (fun _=>rfl) (by simp [encN,Value.oneCell']) rfl (by omega) (by omega) z6 ?_
    intro v9 w9 own9 ch0 ch1
    refine hK.out _ _ (trivial) (fun hHeld=>?_)
    clear hK K
    refine tkH 10 (v:=?_) rfl (by kernel_rfl) (fun _ _ _ h=>h) (by rfl) ?y2x10q61 (by assumption) ?z2x10q61
    case y2x10q61=>intro wq hSw;(go_simp);(try with_reducible rfl)
    refine wpAnyH_done (by kernel_rfl) ?_ _
    go_wp2_with fail
    go_ret
    exact ⟨v9,_,rfl,⟨own9,by simp,by simp,ok_snoc OK.out ⟨hyok.out.1,by show 0<_;omega,by show s.size≤_;omega⟩,TP.chg T ch1 (fun x hx=>by omega),Chg.trans kk (ch1.mono (fun x hx=>hx.1))⟩⟩
   refine AllReadyH.cons (o:=⟨_,_,_,_,_,_⟩) rfl (fun K hK=>?_) AllReadyH.nil
   ·go_simp
    (refine (key_t _ T hL hgb).mono ?_)
    clear T hL
    rintro e w5 ⟨s,rfl,hsz,T,k2⟩
    replace own4:=own4.nxb hbw k2
    replace kk:=kk.nxb k2
    clear k2
    refine hK.out _ _ (trivial) (fun hHeld=>?_)
    clear hK K
    refine wpAnyH_ready (rs:=[4]) (by kernel_rfl) (by simp) ?_
    refine AllReadyH.cons (o:=⟨_,_,_,_,_,_⟩) rfl (fun K hK=>?_) AllReadyH.nil
    have e1:World.cell? _ ⟨g,j*3,none⟩=some (.int .i64 y.id):=(own_set1 (sz:=3) (enc:=encN) (c:=0) (fun _=>rfl) own4 HY.out (by omega)).1
    go_simp
    clear e1
    refine hK.out _ _ (trivial) (fun hHeld=>?_)
    clear hK K
    refine tkH 7 (v:=?_) rfl (by kernel_rfl) (fun _ _ _ h=>h) (by rfl) ?y2x7q85 (by assumption) ?z2x7q85
    case y2x7q85=>intro wq hSw;(go_simp);(try with_reducible rfl)
    refine wpAnyH_ready (rs:=[8]) (by kernel_rfl) (by simp) ?_
    refine AllReadyH.cons (o:=⟨_,_,_,_,_,_⟩) rfl (fun K hK=>?_) AllReadyH.nil
    have z5:=kk.size
    have SX:Sl 3 encN (w5.alloc (.cells #[.int .i64 y.id,.string s,.int .u32 0] 49)) (some ⟨w5.heap.size,0,none⟩) 1 [(⟨y.id,s,0⟩:Nd)]:=Sl.lit _ rfl rfl (fun _=>rfl) rfl
    go_simp
    have k6:=Ex.new w5 (.cells #[.int .i64 y.id,.string s,.int .u32 0] 49)
    replace own4:=own4.nx k6
    replace kk:=kk.nxb (k6.b b)
    replace T:=T.nx k6
    clear k6
    refine hK.out _ _ (trivial) (fun hHeld=>?_)
    clear hK K
    refine wpAnyH_ready (rs:=[9]) (by kernel_rfl) (by simp) ?_
    refine AllReadyH.cons (o:=⟨_,_,_,_,_,_⟩) rfl (fun K hK=>?_) AllReadyH.nil
    rw [if_pos (by rfl)]
    have z6:=kk.size
    refine wp_append_rd (enc:=encN) _ (.tmp 32) (.tmp 40) 23 rfl w.heap.size 49 (.agg #[.int .i64 0,.string ByteArray.empty,.int .u32 0]) 3 32 Tryz.underlying23 Tryz.infoN rfl (by omega) (by omega) _ l own4 rfl _ _ 1 1 [_] SX (fun h=>by cases h) (fun _=>rfl) (by simp [encN,Value.oneCell']) rfl (by omega) (by omega) z6 ?_
    intro v9 w9 own9 ch0 ch1
    refine hK.out _ _ (trivial) (fun hHeld=>?_)
    clear hK K
    refine tkH 10 (v:=?_) rfl (by kernel_rfl) (fun _ _ _ h=>h) (by rfl) ?y2x10q110 (by assumption) ?z2x10q110
    case y2x10q110=>intro wq hSw;(go_simp);(try with_reducible rfl)
    refine wpAnyH_done (by kernel_rfl) ?_ _
    go_wp2_with fail
    go_ret
    exact ⟨v9,_,rfl,⟨own9,by simp,by simp,ok_snoc OK.out ⟨hyok.out.1,by show 0<_;omega,by show s.size≤_;omega⟩,TP.chg T ch1 (fun x hx=>by omega),Chg.trans kk (ch1.mono (fun x hx=>hx.1))⟩⟩
section
variable {N:List Nd}
theorem thr_at (h0:checkN N=0) {x:Nd} (hx:x∈N) {h:Nat} (hh:h≤16):throughN N x.id h=(grpS N h x.word,idxI (grpS N h x.word) x.id,true)∧(grpS N h x.word)[idxI (grpS N h x.word) x.id]?=some x:=by
 have hf:=find_in h0 hx
 have hG:thrG N x.id h=grpS N h x.word:=by unfold thrG;rw [hf];rfl
 obtain ⟨A,B,e⟩:=grp_at hx (h:=(h:Int)) (by unfold lvlN;simp;omega)
 have hi:idxI (grpS N h x.word) x.id=A.length:=by
  have ha:=grp_asc h0 (h:Int) x.word
  rw [e] at ha ⊢
  exact idxI_at ha (i:=A.length) (x:=x) (by simp)
 have hat:(grpS N h x.word)[idxI (grpS N h x.word) x.id]?=some x:=by rw [hi,e];simp
 refine ⟨?_,hat⟩
 unfold throughN
 rw [hG,if_pos ⟨by rw [hf],by rw [h0];rfl,by unfold lvlN;simp;omega,(List.getElem?_eq_some_iff.1 hat).1⟩]
end
set_option maxHeartbeats 1000000 in
theorem top_r (a:Option Addr) (n c:Nat) (L:List Lkd) (id:Int) (w:World) (h:LkL w a n L) (hn:n≤1000000) (hs:∀ c∈L,c.2.length≤9223372036854775807) :
  Calls Tryz.prog 125 #[.slice a n c,.int .i64 id] w fun e w'=>e=.returned (.int .i64 (topL L id))∧Ex w w':=by
 have HL:=lH h.len
 have S1:=lH h
 have HS:=lH hs
 clear h hs
 go_enter Tryz.func125,Tryz.ntmps125
 go_wp2_with fail
 go_loopw [5] (fun i wr=>AtkRel L id n w i wr) (fun i _=>n-(intOf i).toNat)
 case atStart=>exact ⟨0,by omega,rfl,Ex.refl _,by intro j z h;omega⟩
 case round =>
  obtain ⟨k,hk,rfl,kw,hno⟩:=hrel
  obtain ⟨wo,rfl⟩:∃ wo:World,wo=wr:=⟨_,rfl⟩
  have HNO:=lH hno
  have KW:=lH kw
  clear hno
  by_cases hlt:k<n
  ·obtain ⟨x1,o1,a',n',c',d,rfl,hx1,hd,hc1,r1⟩:=NL.at (S1.out.nx kw) hlt
   have e0:wo.cell? ⟨x1,o1+k*2,none⟩=some (.int .i64 d.1):=hc1 0 _ rfl
   have e1:wo.cell? ⟨x1,o1+k*2+1,none⟩=some (.slice a' n' c'):=hc1 1 _ rfl
   have HD:=lH hd
   have hdl:=r1.len
   have hnb:n'≤9223372036854775807:=by rw [← hdl];exact HS.out d (List.mem_of_getElem? hd)
   clear hc1 hd r1 kw
   by_cases hid:d.1=id
   ·have hb:(d.1==id)=true:=by simpa using hid
    have FD:=find_lk HD.out hid HNO.out
    have AT:Hid (topL L id=min ((n':Int)-1) 16):=lH (by unfold topL;rw [FD];simp only;rw [hdl])
    clear FD hid hdl
    by_cases h16:(n':Int)-1≤16
    ·have em:min ((n':Int)-1) 16=(n':Int)-1:=by omega
     have AT2:=lH (AT.out.trans em)
     go_wp2_with fail
     go_ret
     exact ⟨by rw [AT2.out];rfl,KW.out⟩
    ·have em:min ((n':Int)-1) 16=16:=by omega
     have AT2:=lH (AT.out.trans em)
     go_wp2_with fail
     go_ret
     exact ⟨by rw [AT2.out];rfl,KW.out⟩
   ·have hb:(d.1==id)=false:=by simpa using hid
    have HI:=lH hid
    clear hdl hid
    go_wp2_with fail
    refine ⟨⟨k+1,by omega,by go_num,KW.out,fun j z hj hz=>?_⟩,by simp [intOf];omega⟩
    rcases Nat.lt_or_ge j k with h | h
    ·exact HNO.out j z h hz
    ·obtain rfl:j=k:=by omega
     rw [Option.some.inj (hz.symm.trans HD.out)]
     exact HI.out
  ·obtain rfl:k=n:=by omega
   have AT:Hid (topL L id = -1):=lH (by unfold topL;rw [find_lk_none (fun j z hj hz=>HNO.out j z (by rw [← HL.out];exact hj) hz)])
   clear hk hlt kw
   go_wp2_with fail
   go_ret
   exact ⟨by rw [AT.out];rfl,KW.out⟩
def NxPost (o:Option Nd) (w:World) (e:Ending) (w':World):Prop:=∃ (Y:Nd) (ok:Bool),e=.returned (.tuple #[.agg #[.int .i64 Y.id,.string Y.key,.int .u32 Y.word],.bool ok])∧o=(if ok=true then some Y else none)∧Ex w w'
def RH (g:Nat) (wx wq:World):Prop:=Exb g wx wq∧∃ a b c,Blk wq g [a,b,c] 49
set_option maxRecDepth 100000 in
set_option maxHeartbeats 4000000 in
theorem next_r (a:Option Addr) (n c:Nat) (N:List Nd) (a2:Option Addr) (n2 c2:Nat) (L:List Lkd) (x:Nd) (s:ByteArray) (lev:Nat) (right:Bool) (w:World) (h:Sl 3 encN w a n N) (hn:n≤1000) (h2:LkL w a2 n2 L) (hn2:n2≤1000000) (hlv:lev≤1000) :
  Calls Tryz.prog 126 #[.slice a n c,.slice a2 n2 c2,.agg #[.int .i64 x.id,.string x.key,.int .u32 x.word],.string s,.int .i64 lev,.bool right] w (NxPost (hopN N L s.toList right x lev) w):=by
 have B8:=Blk.new w [.int .i64 x.id,.string x.key,.int .u32 x.word] 49
 have k1:=Ex.new w (.cells #[.int .i64 x.id,.string x.key,.int .u32 x.word] 49)
 have B12:=Blk.new (w.alloc (.cells #[.int .i64 x.id,.string x.key,.int .u32 x.word] 49)) [.int .i64 0,.string ⟨#[]⟩,.int .u32 0] 49
 have k2:=Ex.new (w.alloc (.cells #[.int .i64 x.id,.string x.key,.int .u32 x.word] 49)) (.cells #[.int .i64 0,.string ⟨#[]⟩,.int .u32 0] 49)
 have B8:=B8.nx k2
 obtain ⟨w1,hw1⟩:∃ w1,w1=(w.alloc (.cells #[.int .i64 x.id,.string x.key,.int .u32 x.word] 49)).alloc (.cells #[.int .i64 0,.string ⟨#[]⟩,.int .u32 0] 49):=⟨_,rfl⟩
 obtain ⟨g8,hg8⟩:∃ g8,g8=w.heap.size:=⟨_,rfl⟩
 obtain ⟨g12,hg12⟩:∃ g12,g12=w.heap.size+1:=⟨_,rfl⟩
 have B8:Blk w1 g8 [.int .i64 x.id,.string x.key,.int .u32 x.word] 49:=by rw [hw1,hg8];exact B8
 have B12:Blk w1 g12 [.int .i64 0,.string ⟨#[]⟩,.int .u32 0] 49:=by rw [hw1,hg12];simpa using B12
 have k1:=k1.nx k2
 rw [← hw1] at k1
 have hgw:w.heap.size≤g12:=by omega
 have hgg:g8<g12:=by omega
 have HW1:=lH hw1
 have HG8:=lH hg8
 have HG12:=lH hg12
 have SN:=h.nx k1
 have SL:=h2.nx k1
 have b0:=B8.cell 0 _ rfl
 have EX:=k1
 clear h h2 hw1 hg8 hg12 k1 k2
 go_enter Tryz.func126,Tryz.ntmps126
 go_upto_region 1 with fail
 rw [← HG12.out,← HW1.out,← HG8.out]
 clear HG12 HW1 HG8
 go_wp2_with fail
 (with_reducible refine (at_r _ _ _ _ _ _ _ SL hn2 (by omega)).mono ?_)
 rintro e w2 ⟨rfl,kk⟩
 obtain ⟨P,hP⟩:∃ P,P=atL L x.id (lev:Int):=⟨_,rfl⟩
 rw [← hP]
 have HP:=lH hP
 clear hP
 replace SN:=SN.nx kk
 replace EX:=EX.nx kk
 replace B8:=B8.nx kk
 replace B12:=B12.nx kk
 clear kk SL b0
 have B14:=Blk.new w2 [.int .i64 P.1,.int .i64 P.2] 81
 have kk:=Ex.new w2 (.cells #[.int .i64 P.1,.int .i64 P.2] 81)
 obtain ⟨w3,hw3⟩:∃ w3,w3=w2.alloc (.cells #[.int .i64 P.1,.int .i64 P.2] 81):=⟨_,rfl⟩
 obtain ⟨g14,hg14⟩:∃ g14,g14=w2.heap.size:=⟨_,rfl⟩
 have B14:Blk w3 g14 [.int .i64 P.1,.int .i64 P.2] 81:=by rw [hw3,hg14];exact B14
 rw [← hw3] at kk
 have HW3:=lH hw3
 have HG14:=lH hg14
 replace SN:=SN.nx kk
 replace EX:=EX.nx kk
 replace B8:=B8.nx kk
 replace B12:=B12.nx kk
 have b0:=B14.cell 0 _ rfl
 have b1:=B14.cell 1 _ rfl
 clear kk hw3 hg14
 go_upto_region 2 with fail
 rw [← HG14.out,← HW3.out]
 clear HG14 HW3
 cases right with
 | true =>
  go_wp2_with fail
  (with_reducible refine (find_r _ _ _ _ _ _ SN (by omega)).mono ?_)
  rintro e w5 ⟨rfl,kk⟩
  obtain ⟨FR,hFR⟩:∃ FR,FR=findN N P.2:=⟨_,rfl⟩
  rw [← hFR]
  have HFR:=lH (hFR.trans (by rw [HP.out]))
  replace EX:=EX.nx kk
  replace B8:=B8.nx kk
  replace B12:=B12.nx kk
  obtain ⟨Y,ok⟩:=FR
  unfold Nd.val
  simp only
  clear kk hFR SN B14 b0 b1
  have BY:=Blk.new w5 [.int .i64 Y.id,.string Y.key,.int .u32 Y.word] 49
  have kk:=Ex.new w5 (.cells #[.int .i64 Y.id,.string Y.key,.int .u32 Y.word] 49)
  obtain ⟨wx,hwx⟩:∃ wx,wx=w5.alloc (.cells #[.int .i64 Y.id,.string Y.key,.int .u32 Y.word] 49):=⟨_,rfl⟩
  obtain ⟨gy,hgy⟩:∃ gy,gy=w5.heap.size:=⟨_,rfl⟩
  have BY:Blk wx gy [.int .i64 Y.id,.string Y.key,.int .u32 Y.word] 49:=by rw [hwx,hgy];exact BY
  rw [← hwx] at kk
  have hg12y:g12<gy:=by rw [hgy];exact B12.lt
  have HWX:=lH hwx
  have HGY:=lH hgy
  have EX:=EX.nx kk
  replace B8:=B8.nx kk
  replace B12:=B12.nx kk
  clear kk hwx hgy
  have y0:=BY.cell 0 _ rfl
  have y1:=BY.cell 1 _ rfl
  have y2:=BY.cell 2 _ rfl
  have x1:=B8.cell 1 _ rfl
  have hyg:gy<wx.heap.size∧gy≠g12:=⟨BY.lt,by omega⟩
  have hxg:g8<wx.heap.size∧g8≠g12:=⟨B8.lt,by omega⟩
  have FIN:=lH (fun (cur:World) (k:Exb g12 wx cur)=>(Exl.nxb (b:=g12) (w:=w) ⟨EX,hgw⟩ k).1)
  clear EX B8 BY
  go_upto_region 4 with fail
  rw [← HGY.out,← HWX.out]
  clear HGY HWX
  cases ok with
  | false =>
   have HO:Hid (hopN N L s.toList true x lev=none):=lH (by unfold hopN;rw [if_pos rfl,← HFR.out];simp)
   clear HFR
   refine wp_region_held_drew (S:=RH g12 wx) (by kernel_rfl) (⟨(Exb.refl g12 wx).drew,_,_,_,B12⟩) (fun hHeld=>?_)
   refine tkH 0 (v:=?_) rfl (by kernel_rfl) (fun _ _ _ h=>h) (by rfl) ?y1x0q1 (by assumption) ?z1x0q1
   case y1x0q1=>intro wq hSw;(have c0:=Chg.cellv hSw.1 y0 hyg;have c1:=Chg.cellv hSw.1 y1 hyg;have c2:=Chg.cellv hSw.1 y2 hyg;go_simp);(try with_reducible rfl)
   try simp only [Act.put,sA,sB,sC]
   refine tkH 1 (v:=?_) rfl (by kernel_rfl) (fun _ _ _ h=>h) (by rfl) ?y1x1q4 (by assumption) ?z1x1q4
   case y1x1q4=>intro wq hSw;(go_simp);(try with_reducible rfl)
   try simp only [Act.put,sA,sB,sC]
   refine tkH 2 (v:=?_) rfl (by kernel_rfl) (fun _ _ _ h=>h) (by rfl) ?y1x2q7 (by assumption) ?z1x2q7
   case y1x2q7=>intro wq hSw;(go_simp);(try with_reducible rfl)
   try simp only [Act.put,sA,sB,sC]
   refine wpAnyH_take (i:=3) (oi:=⟨_,_,_,_,_,_⟩) (v:=undef) rfl (by kernel_rfl) (by kernel_rfl) (by kernel_rfl) (fun _ _ _ h=>h) (Or.inr ⟨by rfl,rfl⟩) (by assumption) ?_
   try simp only [Act.put,sA,sB,sC]
   refine wpAnyH_take (i:=4) (oi:=⟨_,_,_,_,_,_⟩) (v:=undef) rfl (by kernel_rfl) (by kernel_rfl) (by kernel_rfl) (fun _ _ _ h=>h) (Or.inr ⟨by rfl,rfl⟩) (by assumption) ?_
   try simp only [Act.put,sA,sB,sC]
   refine wpAnyH_take (i:=5) (oi:=⟨_,_,_,_,_,_⟩) (v:=undef) rfl (by kernel_rfl) (by kernel_rfl) (by kernel_rfl) (fun _ _ _ h=>h) (Or.inr ⟨by rfl,rfl⟩) (by assumption) ?_
   try simp only [Act.put,sA,sB,sC]
   refine wpAnyH_take (i:=6) (oi:=⟨_,_,_,_,_,_⟩) (v:=undef) rfl (by kernel_rfl) (by kernel_rfl) (by kernel_rfl) (fun _ _ _ h=>h) (Or.inr ⟨by rfl,rfl⟩) (by assumption) ?_
   try simp only [Act.put,sA,sB,sC]
   refine wpAnyH_take (i:=7) (oi:=⟨_,_,_,_,_,_⟩) (v:=undef) rfl (by kernel_rfl) (by kernel_rfl) (by kernel_rfl) (fun _ _ _ h=>h) (Or.inr ⟨by rfl,rfl⟩) (by assumption) ?_
   try simp only [Act.put,sA,sB,sC]
   refine tkH 8 (v:=?_) rfl (by kernel_rfl) (fun _ _ _ h=>h) (by rfl) ?y1x8q20 (by assumption) ?z1x8q20
   case y1x8q20=>intro wq hSw;(go_simp);(try with_reducible rfl)
   try simp only [Act.put,sA,sB,sC]
   refine tkH 9 (v:=?_) rfl (by kernel_rfl) (fun _ _ _ h=>h) (by rfl) ?y1x9q23 (by assumption) ?z1x9q23
   case y1x9q23=>intro wq hSw;(go_simp);(try with_reducible rfl)
   try simp only [Act.put,sA,sB,sC]
   refine wpAnyH_take (i:=10) (oi:=⟨_,_,_,_,_,_⟩) (v:=undef) rfl (by kernel_rfl) (by kernel_rfl) (by kernel_rfl) (fun _ _ _ h=>h) (Or.inr ⟨by rfl,rfl⟩) (by assumption) ?_
   try simp only [Act.put,sA,sB,sC]
   refine wpAnyH_take (i:=11) (oi:=⟨_,_,_,_,_,_⟩) (v:=undef) rfl (by kernel_rfl) (by kernel_rfl) (by kernel_rfl) (fun _ _ _ h=>h) (Or.inr ⟨by rfl,rfl⟩) (by assumption) ?_
   try simp only [Act.put,sA,sB,sC]
   refine wpAnyH_take (i:=12) (oi:=⟨_,_,_,_,_,_⟩) (v:=undef) rfl (by kernel_rfl) (by kernel_rfl) (by kernel_rfl) (fun _ _ _ h=>h) (Or.inr ⟨by rfl,rfl⟩) (by assumption) ?_
   try simp only [Act.put,sA,sB,sC]
   refine wpAnyH_take (i:=13) (oi:=⟨_,_,_,_,_,_⟩) (v:=undef) rfl (by kernel_rfl) (by kernel_rfl) (by kernel_rfl) (fun _ _ _ h=>h) (Or.inr ⟨by rfl,rfl⟩) (by assumption) ?_
   try simp only [Act.put,sA,sB,sC]
   refine tkH 14 (v:=?_) rfl (by kernel_rfl) (fun _ _ _ h=>h) (by rfl) ?y1x14q34 (by assumption) ?z1x14q34
   case y1x14q34=>intro wq hSw;(go_simp);(try with_reducible rfl)
   try simp only [Act.put,sA,sB,sC]
   refine wpAnyH_ready (rs:=[15]) (by kernel_rfl) (by simp) ?_
   refine AllReadyH.cons (o:=⟨_,_,_,_,_,_⟩) rfl (fun K hK=>?_) AllReadyH.nil
   have q0:=B12.cell 0 _ rfl
   have q1:=B12.cell 1 _ rfl
   have q2:=B12.cell 2 _ rfl
   have z0:=B12.free 0
   have z1:=B12.free 1
   have z2:=B12.free 2
   have KB:=((B12.set 0 (.int .i64 Y.id)).set 1 (.string Y.key)).set 2 (.int .u32 Y.word)
   simp only [List.set_cons_zero,List.set_cons_succ] at KB
   go_simp
   clear q0 q1 q2 z0 z1 z2
   refine hK.out _ _ (⟨((((Exb.refl g12 wx).setB (p:=⟨g12,0,none⟩) (.int .i64 Y.id) rfl).setB (p:=⟨g12,1,none⟩) (.string Y.key) rfl).setB (p:=⟨g12,2,none⟩) (.int .u32 Y.word) rfl).drew,_,_,_,KB⟩) (fun hHeld=>?_)
   clear hK K
   try simp only [Act.put,sA,sB,sC]
   refine tkH 16 (v:=?_) rfl (by kernel_rfl) (fun _ _ _ h=>h) (by rfl) ?y1x16q52 (by assumption) ?z1x16q52
   case y1x16q52=>intro wq hSw;(go_simp);(try with_reducible rfl)
   try simp only [Act.put,sA,sB,sC]
   refine wpAnyH_done (by kernel_rfl) ?_ _
   have q0:=KB.cell 0 _ rfl
   have q1:=KB.cell 1 _ rfl
   have q2:=KB.cell 2 _ rfl
   have KF:=FIN.out _ hHeld.1
   clear hHeld KB
   go_wp2_with fail
   refine bodyPost_ret (v:=.tuple #[.agg #[.int .i64 Y.id,.string Y.key,.int .u32 Y.word],.bool (false)]) (by simp [results,Tryz.results126,go_sem, *]) rfl ⟨Y,false,rfl,HO.out,KF⟩
  | true =>
   cases hless:Op.bytesLess x.key.toList Y.key.toList with
   | false =>
    have HO:Hid (hopN N L s.toList true x lev=none):=lH (by unfold hopN;rw [if_pos rfl,← HFR.out];simp [hless])
    have hgt:(Op.bytesLess Y.key.toList x.key.toList||Y.key.toList==x.key.toList)=true:=by
     rcases bl_tri Y.key.toList x.key.toList with ⟨h,_⟩ | ⟨h,_⟩ | ⟨h,_⟩
     ·rw [h];rfl
     ·rw [h];simp
     ·rw [hless] at h;cases h
    obtain ⟨gb,hgb⟩:∃ gb,gb=(Op.bytesLess Y.key.toList x.key.toList||Y.key.toList==x.key.toList):=⟨_,rfl⟩
    clear HFR hgb gb
    rcases Bool.or_eq_true_iff.1 hgt with g1 | g1
    ·clear hgt
     refine wp_region_held_drew (S:=RH g12 wx) (by kernel_rfl) (⟨(Exb.refl g12 wx).drew,_,_,_,B12⟩) (fun hHeld=>?_)
     refine tkH 0 (v:=?_) rfl (by kernel_rfl) (fun _ _ _ h=>h) (by rfl) ?y2x0q1 (by assumption) ?z2x0q1
     case y2x0q1=>intro wq hSw;(have c0:=Chg.cellv hSw.1 y0 hyg;have c1:=Chg.cellv hSw.1 y1 hyg;have c2:=Chg.cellv hSw.1 y2 hyg;go_simp);(try with_reducible rfl)
     try simp only [Act.put,sA,sB,sC]
     refine tkH 1 (v:=?_) rfl (by kernel_rfl) (fun _ _ _ h=>h) (by rfl) ?y2x1q4 (by assumption) ?z2x1q4
     case y2x1q4=>intro wq hSw;(go_simp);(try with_reducible rfl)
     try simp only [Act.put,sA,sB,sC]
     refine tkH 2 (v:=?_) rfl (by kernel_rfl) (fun _ _ _ h=>h) (by rfl) ?y2x2q7 (by assumption) ?z2x2q7
     case y2x2q7=>intro wq hSw;(go_simp);(try with_reducible rfl)
     try simp only [Act.put,sA,sB,sC]
     refine tkH 3 (v:=?_) rfl (by kernel_rfl) (fun _ _ _ h=>h) (by rfl) ?y2x3q10 (by assumption) ?z2x3q10
     case y2x3q10=>intro wq hSw;(go_simp);(try with_reducible rfl)
     try simp only [Act.put,sA,sB,sC]
     refine tkH 4 (v:=?_) rfl (by kernel_rfl) (fun _ _ _ h=>h) (by rfl) ?y2x4q13 (by assumption) ?z2x4q13
     case y2x4q13=>intro wq hSw;(have c1:=Chg.cellv hSw.1 y1 hyg;go_simp);(try with_reducible rfl)
     try simp only [Act.put,sA,sB,sC]
     refine tkH 5 (v:=?_) rfl (by kernel_rfl) (fun _ _ _ h=>h) (by rfl) ?y2x5q16 (by assumption) ?z2x5q16
     case y2x5q16=>intro wq hSw;(go_simp);(try with_reducible rfl)
     try simp only [Act.put,sA,sB,sC]
     refine tkH 6 (v:=?_) rfl (by kernel_rfl) (fun _ _ _ h=>h) (by rfl) ?y2x6q19 (by assumption) ?z2x6q19
     case y2x6q19=>intro wq hSw;(have c1:=Chg.cellv hSw.1 x1 hxg;go_simp);(try with_reducible rfl)
     try simp only [Act.put,sA,sB,sC]
     refine tkH 7 (v:=?_) rfl (by kernel_rfl) (fun _ _ _ h=>h) (by rfl) ?y2x7q22 (by assumption) ?z2x7q22
     case y2x7q22=>intro wq hSw;(go_simp);(try with_reducible rfl)
     try simp only [Act.put,sA,sB,sC]
     refine tkH 8 (v:=?_) rfl (by kernel_rfl) (fun _ _ _ h=>h) (by rfl) ?y2x8q25 (by assumption) ?z2x8q25
     case y2x8q25=>intro wq hSw;(go_simp);(try with_reducible rfl)
     try simp only [Act.put,sA,sB,sC]
     refine tkH 9 (v:=?_) rfl (by kernel_rfl) (fun _ _ _ h=>h) (by rfl) ?y2x9q28 (by assumption) ?z2x9q28
     case y2x9q28=>intro wq hSw;(go_simp);(try with_reducible rfl)
     try simp only [Act.put,sA,sB,sC]
     refine wpAnyH_take (i:=10) (oi:=⟨_,_,_,_,_,_⟩) (v:=undef) rfl (by kernel_rfl) (by kernel_rfl) (by kernel_rfl) (fun _ _ _ h=>h) (Or.inr ⟨by rfl,rfl⟩) (by assumption) ?_
     try simp only [Act.put,sA,sB,sC]
     refine wpAnyH_take (i:=11) (oi:=⟨_,_,_,_,_,_⟩) (v:=undef) rfl (by kernel_rfl) (by kernel_rfl) (by kernel_rfl) (fun _ _ _ h=>h) (Or.inr ⟨by rfl,rfl⟩) (by assumption) ?_
     try simp only [Act.put,sA,sB,sC]
     refine wpAnyH_take (i:=12) (oi:=⟨_,_,_,_,_,_⟩) (v:=undef) rfl (by kernel_rfl) (by kernel_rfl) (by kernel_rfl) (fun _ _ _ h=>h) (Or.inr ⟨by rfl,rfl⟩) (by assumption) ?_
     try simp only [Act.put,sA,sB,sC]
     refine wpAnyH_take (i:=13) (oi:=⟨_,_,_,_,_,_⟩) (v:=undef) rfl (by kernel_rfl) (by kernel_rfl) (by kernel_rfl) (fun _ _ _ h=>h) (Or.inr ⟨by rfl,rfl⟩) (by assumption) ?_
     try simp only [Act.put,sA,sB,sC]
     refine tkH 14 (v:=?_) rfl (by kernel_rfl) (fun _ _ _ h=>h) (by rfl) ?y2x14q39 (by assumption) ?z2x14q39
     case y2x14q39=>intro wq hSw;(go_simp);(try with_reducible rfl)
     try simp only [Act.put,sA,sB,sC]
     refine wpAnyH_ready (rs:=[15]) (by kernel_rfl) (by simp) ?_
     refine AllReadyH.cons (o:=⟨_,_,_,_,_,_⟩) rfl (fun K hK=>?_) AllReadyH.nil
     have q0:=B12.cell 0 _ rfl
     have q1:=B12.cell 1 _ rfl
     have q2:=B12.cell 2 _ rfl
     have z0:=B12.free 0
     have z1:=B12.free 1
     have z2:=B12.free 2
     have KB:=((B12.set 0 (.int .i64 Y.id)).set 1 (.string Y.key)).set 2 (.int .u32 Y.word)
     simp only [List.set_cons_zero,List.set_cons_succ] at KB
     go_simp
     clear q0 q1 q2 z0 z1 z2
     refine hK.out _ _ (⟨((((Exb.refl g12 wx).setB (p:=⟨g12,0,none⟩) (.int .i64 Y.id) rfl).setB (p:=⟨g12,1,none⟩) (.string Y.key) rfl).setB (p:=⟨g12,2,none⟩) (.int .u32 Y.word) rfl).drew,_,_,_,KB⟩) (fun hHeld=>?_)
     clear hK K
     try simp only [Act.put,sA,sB,sC]
     refine tkH 16 (v:=?_) rfl (by kernel_rfl) (fun _ _ _ h=>h) (by rfl) ?y2x16q57 (by assumption) ?z2x16q57
     case y2x16q57=>intro wq hSw;(go_simp);(try with_reducible rfl)
     try simp only [Act.put,sA,sB,sC]
     refine wpAnyH_done (by kernel_rfl) ?_ _
     have q0:=KB.cell 0 _ rfl
     have q1:=KB.cell 1 _ rfl
     have q2:=KB.cell 2 _ rfl
     have KF:=FIN.out _ hHeld.1
     clear hHeld KB
     go_wp2_with fail
     refine bodyPost_ret (v:=.tuple #[.agg #[.int .i64 Y.id,.string Y.key,.int .u32 Y.word],.bool (false)]) (by simp [results,Tryz.results126,go_sem, *]) rfl ⟨Y,false,rfl,HO.out,KF⟩
    ·cases g2:Op.bytesLess Y.key.toList x.key.toList with
     | true =>
      rw [beq_iff_eq.1 g1,bytesLess_irrefl] at g2
      cases g2
     | false =>
      clear hgt
      refine wp_region_held_drew (S:=RH g12 wx) (by kernel_rfl) (⟨(Exb.refl g12 wx).drew,_,_,_,B12⟩) (fun hHeld=>?_)
      refine tkH 0 (v:=?_) rfl (by kernel_rfl) (fun _ _ _ h=>h) (by rfl) ?y3x0q1 (by assumption) ?z3x0q1
      case y3x0q1=>intro wq hSw;(have c0:=Chg.cellv hSw.1 y0 hyg;have c1:=Chg.cellv hSw.1 y1 hyg;have c2:=Chg.cellv hSw.1 y2 hyg;go_simp);(try with_reducible rfl)
      try simp only [Act.put,sA,sB,sC]
      refine tkH 1 (v:=?_) rfl (by kernel_rfl) (fun _ _ _ h=>h) (by rfl) ?y3x1q4 (by assumption) ?z3x1q4
      case y3x1q4=>intro wq hSw;(go_simp);(try with_reducible rfl)
      try simp only [Act.put,sA,sB,sC]
      refine tkH 2 (v:=?_) rfl (by kernel_rfl) (fun _ _ _ h=>h) (by rfl) ?y3x2q7 (by assumption) ?z3x2q7
      case y3x2q7=>intro wq hSw;(go_simp);(try with_reducible rfl)
      try simp only [Act.put,sA,sB,sC]
      refine tkH 3 (v:=?_) rfl (by kernel_rfl) (fun _ _ _ h=>h) (by rfl) ?y3x3q10 (by assumption) ?z3x3q10
      case y3x3q10=>intro wq hSw;(go_simp);(try with_reducible rfl)
      try simp only [Act.put,sA,sB,sC]
      refine tkH 4 (v:=?_) rfl (by kernel_rfl) (fun _ _ _ h=>h) (by rfl) ?y3x4q13 (by assumption) ?z3x4q13
      case y3x4q13=>intro wq hSw;(have c1:=Chg.cellv hSw.1 y1 hyg;go_simp);(try with_reducible rfl)
      try simp only [Act.put,sA,sB,sC]
      refine tkH 5 (v:=?_) rfl (by kernel_rfl) (fun _ _ _ h=>h) (by rfl) ?y3x5q16 (by assumption) ?z3x5q16
      case y3x5q16=>intro wq hSw;(go_simp);(try with_reducible rfl)
      try simp only [Act.put,sA,sB,sC]
      refine tkH 6 (v:=?_) rfl (by kernel_rfl) (fun _ _ _ h=>h) (by rfl) ?y3x6q19 (by assumption) ?z3x6q19
      case y3x6q19=>intro wq hSw;(have c1:=Chg.cellv hSw.1 x1 hxg;go_simp);(try with_reducible rfl)
      try simp only [Act.put,sA,sB,sC]
      refine tkH 7 (v:=?_) rfl (by kernel_rfl) (fun _ _ _ h=>h) (by rfl) ?y3x7q22 (by assumption) ?z3x7q22
      case y3x7q22=>intro wq hSw;(go_simp);(try with_reducible rfl)
      try simp only [Act.put,sA,sB,sC]
      refine tkH 8 (v:=?_) rfl (by kernel_rfl) (fun _ _ _ h=>h) (by rfl) ?y3x8q25 (by assumption) ?z3x8q25
      case y3x8q25=>intro wq hSw;(go_simp);(try with_reducible rfl)
      try simp only [Act.put,sA,sB,sC]
      refine tkH 9 (v:=?_) rfl (by kernel_rfl) (fun _ _ _ h=>h) (by rfl) ?y3x9q28 (by assumption) ?z3x9q28
      case y3x9q28=>intro wq hSw;(go_simp);(try with_reducible rfl)
      try simp only [Act.put,sA,sB,sC]
      refine wpAnyH_take (i:=10) (oi:=⟨_,_,_,_,_,_⟩) (v:=undef) rfl (by kernel_rfl) (by kernel_rfl) (by kernel_rfl) (fun _ _ _ h=>h) (Or.inr ⟨by rfl,rfl⟩) (by assumption) ?_
      try simp only [Act.put,sA,sB,sC]
      refine wpAnyH_take (i:=11) (oi:=⟨_,_,_,_,_,_⟩) (v:=undef) rfl (by kernel_rfl) (by kernel_rfl) (by kernel_rfl) (fun _ _ _ h=>h) (Or.inr ⟨by rfl,rfl⟩) (by assumption) ?_
      try simp only [Act.put,sA,sB,sC]
      refine wpAnyH_take (i:=12) (oi:=⟨_,_,_,_,_,_⟩) (v:=undef) rfl (by kernel_rfl) (by kernel_rfl) (by kernel_rfl) (fun _ _ _ h=>h) (Or.inr ⟨by rfl,rfl⟩) (by assumption) ?_
      try simp only [Act.put,sA,sB,sC]
      refine wpAnyH_take (i:=13) (oi:=⟨_,_,_,_,_,_⟩) (v:=undef) rfl (by kernel_rfl) (by kernel_rfl) (by kernel_rfl) (fun _ _ _ h=>h) (Or.inr ⟨by rfl,rfl⟩) (by assumption) ?_
      try simp only [Act.put,sA,sB,sC]
      refine tkH 14 (v:=?_) rfl (by kernel_rfl) (fun _ _ _ h=>h) (by rfl) ?y3x14q39 (by assumption) ?z3x14q39
      case y3x14q39=>intro wq hSw;(go_simp);(try with_reducible rfl)
      try simp only [Act.put,sA,sB,sC]
      refine wpAnyH_ready (rs:=[15]) (by kernel_rfl) (by simp) ?_
      refine AllReadyH.cons (o:=⟨_,_,_,_,_,_⟩) rfl (fun K hK=>?_) AllReadyH.nil
      have q0:=B12.cell 0 _ rfl
      have q1:=B12.cell 1 _ rfl
      have q2:=B12.cell 2 _ rfl
      have z0:=B12.free 0
      have z1:=B12.free 1
      have z2:=B12.free 2
      have KB:=((B12.set 0 (.int .i64 Y.id)).set 1 (.string Y.key)).set 2 (.int .u32 Y.word)
      simp only [List.set_cons_zero,List.set_cons_succ] at KB
      go_simp
      clear q0 q1 q2 z0 z1 z2
      refine hK.out _ _ (⟨((((Exb.refl g12 wx).setB (p:=⟨g12,0,none⟩) (.int .i64 Y.id) rfl).setB (p:=⟨g12,1,none⟩) (.string Y.key) rfl).setB (p:=⟨g12,2,none⟩) (.int .u32 Y.word) rfl).drew,_,_,_,KB⟩) (fun hHeld=>?_)
      clear hK K
      try simp only [Act.put,sA,sB,sC]
      refine tkH 16 (v:=?_) rfl (by kernel_rfl) (fun _ _ _ h=>h) (by rfl) ?y3x16q57 (by assumption) ?z3x16q57
      case y3x16q57=>intro wq hSw;(go_simp);(try with_reducible rfl)
      try simp only [Act.put,sA,sB,sC]
      refine wpAnyH_done (by kernel_rfl) ?_ _
      have q0:=KB.cell 0 _ rfl
      have q1:=KB.cell 1 _ rfl
      have q2:=KB.cell 2 _ rfl
      have KF:=FIN.out _ hHeld.1
      clear hHeld KB
      go_wp2_with fail
      refine bodyPost_ret (v:=.tuple #[.agg #[.int .i64 Y.id,.string Y.key,.int .u32 Y.word],.bool (false)]) (by simp [results,Tryz.results126,go_sem, *]) rfl ⟨Y,false,rfl,HO.out,KF⟩
   | true =>
    have HO:Hid (hopN N L s.toList true x lev=if (!Op.bytesLess s.toList Y.key.toList)=true then some Y else none):=lH (by unfold hopN;rw [if_pos rfl,← HFR.out];simp [hless])
    have g1:=bl_asymm hless
    have g2:(Y.key.toList==x.key.toList)=false:=by
     rw [beq_eq_false_iff_ne];intro h;rw [h,bytesLess_irrefl] at hless;cases hless
    have LE:(Op.bytesLess Y.key.toList s.toList||Y.key.toList==s.toList) = !Op.bytesLess s.toList Y.key.toList:=le_not _ _
    clear HFR
    refine wp_region_held_drew (S:=RH g12 wx) (by kernel_rfl) (⟨(Exb.refl g12 wx).drew,_,_,_,B12⟩) (fun hHeld=>?_)
    refine tkH 0 (v:=?_) rfl (by kernel_rfl) (fun _ _ _ h=>h) (by rfl) ?y4x0q1 (by assumption) ?z4x0q1
    case y4x0q1=>intro wq hSw;(have c0:=Chg.cellv hSw.1 y0 hyg;have c1:=Chg.cellv hSw.1 y1 hyg;have c2:=Chg.cellv hSw.1 y2 hyg;go_simp);(try with_reducible rfl)
    try simp only [Act.put,sA,sB,sC]
    refine tkH 1 (v:=?_) rfl (by kernel_rfl) (fun _ _ _ h=>h) (by rfl) ?y4x1q4 (by assumption) ?z4x1q4
    case y4x1q4=>intro wq hSw;(go_simp);(try with_reducible rfl)
    try simp only [Act.put,sA,sB,sC]
    refine tkH 2 (v:=?_) rfl (by kernel_rfl) (fun _ _ _ h=>h) (by rfl) ?y4x2q7 (by assumption) ?z4x2q7
    case y4x2q7=>intro wq hSw;(go_simp);(try with_reducible rfl)
    try simp only [Act.put,sA,sB,sC]
    refine tkH 3 (v:=?_) rfl (by kernel_rfl) (fun _ _ _ h=>h) (by rfl) ?y4x3q10 (by assumption) ?z4x3q10
    case y4x3q10=>intro wq hSw;(go_simp);(try with_reducible rfl)
    try simp only [Act.put,sA,sB,sC]
    refine tkH 4 (v:=?_) rfl (by kernel_rfl) (fun _ _ _ h=>h) (by rfl) ?y4x4q13 (by assumption) ?z4x4q13
    case y4x4q13=>intro wq hSw;(have c1:=Chg.cellv hSw.1 y1 hyg;go_simp);(try with_reducible rfl)
    try simp only [Act.put,sA,sB,sC]
    refine tkH 5 (v:=?_) rfl (by kernel_rfl) (fun _ _ _ h=>h) (by rfl) ?y4x5q16 (by assumption) ?z4x5q16
    case y4x5q16=>intro wq hSw;(go_simp);(try with_reducible rfl)
    try simp only [Act.put,sA,sB,sC]
    refine tkH 6 (v:=?_) rfl (by kernel_rfl) (fun _ _ _ h=>h) (by rfl) ?y4x6q19 (by assumption) ?z4x6q19
    case y4x6q19=>intro wq hSw;(have c1:=Chg.cellv hSw.1 x1 hxg;go_simp);(try with_reducible rfl)
    try simp only [Act.put,sA,sB,sC]
    refine tkH 7 (v:=?_) rfl (by kernel_rfl) (fun _ _ _ h=>h) (by rfl) ?y4x7q22 (by assumption) ?z4x7q22
    case y4x7q22=>intro wq hSw;(go_simp);(try with_reducible rfl)
    try simp only [Act.put,sA,sB,sC]
    refine tkH 8 (v:=?_) rfl (by kernel_rfl) (fun _ _ _ h=>h) (by rfl) ?y4x8q25 (by assumption) ?z4x8q25
    case y4x8q25=>intro wq hSw;(go_simp);(try with_reducible rfl)
    try simp only [Act.put,sA,sB,sC]
    refine tkH 9 (v:=?_) rfl (by kernel_rfl) (fun _ _ _ h=>h) (by rfl) ?y4x9q28 (by assumption) ?z4x9q28
    case y4x9q28=>intro wq hSw;(go_simp);(try with_reducible rfl)
    try simp only [Act.put,sA,sB,sC]
    refine tkH 10 (v:=?_) rfl (by kernel_rfl) (fun _ _ _ h=>h) (by rfl) ?y4x10q31 (by assumption) ?z4x10q31
    case y4x10q31=>intro wq hSw;(go_simp);(try with_reducible rfl)
    try simp only [Act.put,sA,sB,sC]
    refine tkH 11 (v:=?_) rfl (by kernel_rfl) (fun _ _ _ h=>h) (by rfl) ?y4x11q34 (by assumption) ?z4x11q34
    case y4x11q34=>intro wq hSw;(have c1:=Chg.cellv hSw.1 y1 hyg;go_simp);(try with_reducible rfl)
    try simp only [Act.put,sA,sB,sC]
    refine tkH 12 (v:=?_) rfl (by kernel_rfl) (fun _ _ _ h=>h) (by rfl) ?y4x12q37 (by assumption) ?z4x12q37
    case y4x12q37=>intro wq hSw;(go_simp);(try with_reducible rfl)
    try simp only [Act.put,sA,sB,sC]
    refine tkH 13 (v:=?_) rfl (by kernel_rfl) (fun _ _ _ h=>h) (by rfl) ?y4x13q40 (by assumption) ?z4x13q40
    case y4x13q40=>intro wq hSw;(go_simp);(try with_reducible rfl)
    try simp only [Act.put,sA,sB,sC]
    refine tkH 14 (v:=?_) rfl (by kernel_rfl) (fun _ _ _ h=>h) (by rfl) ?y4x14q43 (by assumption) ?z4x14q43
    case y4x14q43=>intro wq hSw;(go_simp);(try with_reducible rfl)
    try simp only [Act.put,sA,sB,sC]
    refine wpAnyH_ready (rs:=[15]) (by kernel_rfl) (by simp) ?_
    refine AllReadyH.cons (o:=⟨_,_,_,_,_,_⟩) rfl (fun K hK=>?_) AllReadyH.nil
    have q0:=B12.cell 0 _ rfl
    have q1:=B12.cell 1 _ rfl
    have q2:=B12.cell 2 _ rfl
    have z0:=B12.free 0
    have z1:=B12.free 1
    have z2:=B12.free 2
    have KB:=((B12.set 0 (.int .i64 Y.id)).set 1 (.string Y.key)).set 2 (.int .u32 Y.word)
    simp only [List.set_cons_zero,List.set_cons_succ] at KB
    go_simp
    clear q0 q1 q2 z0 z1 z2
    refine hK.out _ _ (⟨((((Exb.refl g12 wx).setB (p:=⟨g12,0,none⟩) (.int .i64 Y.id) rfl).setB (p:=⟨g12,1,none⟩) (.string Y.key) rfl).setB (p:=⟨g12,2,none⟩) (.int .u32 Y.word) rfl).drew,_,_,_,KB⟩) (fun hHeld=>?_)
    clear hK K
    try simp only [Act.put,sA,sB,sC]
    refine tkH 16 (v:=?_) rfl (by kernel_rfl) (fun _ _ _ h=>h) (by rfl) ?y4x16q61 (by assumption) ?z4x16q61
    case y4x16q61=>intro wq hSw;(go_simp);(try with_reducible rfl)
    try simp only [Act.put,sA,sB,sC]
    refine wpAnyH_done (by kernel_rfl) ?_ _
    have q0:=KB.cell 0 _ rfl
    have q1:=KB.cell 1 _ rfl
    have q2:=KB.cell 2 _ rfl
    have KF:=FIN.out _ hHeld.1
    clear hHeld KB
    go_wp2_with fail
    refine bodyPost_ret (v:=.tuple #[.agg #[.int .i64 Y.id,.string Y.key,.int .u32 Y.word],.bool (!Op.bytesLess s.toList Y.key.toList)]) (by simp [results,Tryz.results126,go_sem, *]) rfl ⟨Y,!Op.bytesLess s.toList Y.key.toList,rfl,HO.out,KF⟩
 | false =>
  go_wp2_with fail
  (with_reducible refine (find_r _ _ _ _ _ _ SN (by omega)).mono ?_)
  rintro e w5 ⟨rfl,kk⟩
  obtain ⟨FR,hFR⟩:∃ FR,FR=findN N P.1:=⟨_,rfl⟩
  rw [← hFR]
  have HFR:=lH (hFR.trans (by rw [HP.out]))
  replace EX:=EX.nx kk
  replace B8:=B8.nx kk
  replace B12:=B12.nx kk
  obtain ⟨Y,ok⟩:=FR
  unfold Nd.val
  simp only
  clear kk hFR SN B14 b0 b1
  have BY:=Blk.new w5 [.int .i64 Y.id,.string Y.key,.int .u32 Y.word] 49
  have kk:=Ex.new w5 (.cells #[.int .i64 Y.id,.string Y.key,.int .u32 Y.word] 49)
  obtain ⟨wx,hwx⟩:∃ wx,wx=w5.alloc (.cells #[.int .i64 Y.id,.string Y.key,.int .u32 Y.word] 49):=⟨_,rfl⟩
  obtain ⟨gy,hgy⟩:∃ gy,gy=w5.heap.size:=⟨_,rfl⟩
  have BY:Blk wx gy [.int .i64 Y.id,.string Y.key,.int .u32 Y.word] 49:=by rw [hwx,hgy];exact BY
  rw [← hwx] at kk
  have hg12y:g12<gy:=by rw [hgy];exact B12.lt
  have HWX:=lH hwx
  have HGY:=lH hgy
  have EX:=EX.nx kk
  replace B8:=B8.nx kk
  replace B12:=B12.nx kk
  clear kk hwx hgy
  have y0:=BY.cell 0 _ rfl
  have y1:=BY.cell 1 _ rfl
  have y2:=BY.cell 2 _ rfl
  have x1:=B8.cell 1 _ rfl
  have hyg:gy<wx.heap.size∧gy≠g12:=⟨BY.lt,by omega⟩
  have hxg:g8<wx.heap.size∧g8≠g12:=⟨B8.lt,by omega⟩
  have FIN:=lH (fun (cur:World) (k:Exb g12 wx cur)=>(Exl.nxb (b:=g12) (w:=w) ⟨EX,hgw⟩ k).1)
  clear EX B8 BY
  go_upto_region 6 with fail
  rw [← HGY.out,← HWX.out]
  clear HGY HWX
  cases ok with
  | false =>
   have HO:Hid (hopN N L s.toList false x lev=none):=lH (by unfold hopN;rw [if_neg (by simp),← HFR.out];simp)
   clear HFR
   refine wp_region_held_drew (S:=RH g12 wx) (by kernel_rfl) (⟨(Exb.refl g12 wx).drew,_,_,_,B12⟩) (fun hHeld=>?_)
   refine tkH 0 (v:=?_) rfl (by kernel_rfl) (fun _ _ _ h=>h) (by rfl) ?y5x0q1 (by assumption) ?z5x0q1
   case y5x0q1=>intro wq hSw;(have c0:=Chg.cellv hSw.1 y0 hyg;have c1:=Chg.cellv hSw.1 y1 hyg;have c2:=Chg.cellv hSw.1 y2 hyg;go_simp);(try with_reducible rfl)
   try simp only [Act.put,sA,sB,sC]
   refine tkH 1 (v:=?_) rfl (by kernel_rfl) (fun _ _ _ h=>h) (by rfl) ?y5x1q4 (by assumption) ?z5x1q4
   case y5x1q4=>intro wq hSw;(go_simp);(try with_reducible rfl)
   try simp only [Act.put,sA,sB,sC]
   refine tkH 2 (v:=?_) rfl (by kernel_rfl) (fun _ _ _ h=>h) (by rfl) ?y5x2q7 (by assumption) ?z5x2q7
   case y5x2q7=>intro wq hSw;(go_simp);(try with_reducible rfl)
   try simp only [Act.put,sA,sB,sC]
   refine wpAnyH_take (i:=3) (oi:=⟨_,_,_,_,_,_⟩) (v:=undef) rfl (by kernel_rfl) (by kernel_rfl) (by kernel_rfl) (fun _ _ _ h=>h) (Or.inr ⟨by rfl,rfl⟩) (by assumption) ?_
   try simp only [Act.put,sA,sB,sC]
   refine wpAnyH_take (i:=4) (oi:=⟨_,_,_,_,_,_⟩) (v:=undef) rfl (by kernel_rfl) (by kernel_rfl) (by kernel_rfl) (fun _ _ _ h=>h) (Or.inr ⟨by rfl,rfl⟩) (by assumption) ?_
   try simp only [Act.put,sA,sB,sC]
   refine wpAnyH_take (i:=5) (oi:=⟨_,_,_,_,_,_⟩) (v:=undef) rfl (by kernel_rfl) (by kernel_rfl) (by kernel_rfl) (fun _ _ _ h=>h) (Or.inr ⟨by rfl,rfl⟩) (by assumption) ?_
   try simp only [Act.put,sA,sB,sC]
   refine wpAnyH_take (i:=6) (oi:=⟨_,_,_,_,_,_⟩) (v:=undef) rfl (by kernel_rfl) (by kernel_rfl) (by kernel_rfl) (fun _ _ _ h=>h) (Or.inr ⟨by rfl,rfl⟩) (by assumption) ?_
   try simp only [Act.put,sA,sB,sC]
   refine wpAnyH_take (i:=7) (oi:=⟨_,_,_,_,_,_⟩) (v:=undef) rfl (by kernel_rfl) (by kernel_rfl) (by kernel_rfl) (fun _ _ _ h=>h) (Or.inr ⟨by rfl,rfl⟩) (by assumption) ?_
   try simp only [Act.put,sA,sB,sC]
   refine tkH 8 (v:=?_) rfl (by kernel_rfl) (fun _ _ _ h=>h) (by rfl) ?y5x8q20 (by assumption) ?z5x8q20
   case y5x8q20=>intro wq hSw;(go_simp);(try with_reducible rfl)
   try simp only [Act.put,sA,sB,sC]
   refine tkH 9 (v:=?_) rfl (by kernel_rfl) (fun _ _ _ h=>h) (by rfl) ?y5x9q23 (by assumption) ?z5x9q23
   case y5x9q23=>intro wq hSw;(go_simp);(try with_reducible rfl)
   try simp only [Act.put,sA,sB,sC]
   refine wpAnyH_take (i:=10) (oi:=⟨_,_,_,_,_,_⟩) (v:=undef) rfl (by kernel_rfl) (by kernel_rfl) (by kernel_rfl) (fun _ _ _ h=>h) (Or.inr ⟨by rfl,rfl⟩) (by assumption) ?_
   try simp only [Act.put,sA,sB,sC]
   refine wpAnyH_take (i:=11) (oi:=⟨_,_,_,_,_,_⟩) (v:=undef) rfl (by kernel_rfl) (by kernel_rfl) (by kernel_rfl) (fun _ _ _ h=>h) (Or.inr ⟨by rfl,rfl⟩) (by assumption) ?_
   try simp only [Act.put,sA,sB,sC]
   refine wpAnyH_take (i:=12) (oi:=⟨_,_,_,_,_,_⟩) (v:=undef) rfl (by kernel_rfl) (by kernel_rfl) (by kernel_rfl) (fun _ _ _ h=>h) (Or.inr ⟨by rfl,rfl⟩) (by assumption) ?_
   try simp only [Act.put,sA,sB,sC]
   refine wpAnyH_take (i:=13) (oi:=⟨_,_,_,_,_,_⟩) (v:=undef) rfl (by kernel_rfl) (by kernel_rfl) (by kernel_rfl) (fun _ _ _ h=>h) (Or.inr ⟨by rfl,rfl⟩) (by assumption) ?_
   try simp only [Act.put,sA,sB,sC]
   refine tkH 14 (v:=?_) rfl (by kernel_rfl) (fun _ _ _ h=>h) (by rfl) ?y5x14q34 (by assumption) ?z5x14q34
   case y5x14q34=>intro wq hSw;(go_simp);(try with_reducible rfl)
   try simp only [Act.put,sA,sB,sC]
   refine wpAnyH_ready (rs:=[15]) (by kernel_rfl) (by simp) ?_
   refine AllReadyH.cons (o:=⟨_,_,_,_,_,_⟩) rfl (fun K hK=>?_) AllReadyH.nil
   have q0:=B12.cell 0 _ rfl
   have q1:=B12.cell 1 _ rfl
   have q2:=B12.cell 2 _ rfl
   have z0:=B12.free 0
   have z1:=B12.free 1
   have z2:=B12.free 2
   have KB:=((B12.set 0 (.int .i64 Y.id)).set 1 (.string Y.key)).set 2 (.int .u32 Y.word)
   simp only [List.set_cons_zero,List.set_cons_succ] at KB
   go_simp
   clear q0 q1 q2 z0 z1 z2
   refine hK.out _ _ (⟨((((Exb.refl g12 wx).setB (p:=⟨g12,0,none⟩) (.int .i64 Y.id) rfl).setB (p:=⟨g12,1,none⟩) (.string Y.key) rfl).setB (p:=⟨g12,2,none⟩) (.int .u32 Y.word) rfl).drew,_,_,_,KB⟩) (fun hHeld=>?_)
   clear hK K
   try simp only [Act.put,sA,sB,sC]
   refine tkH 16 (v:=?_) rfl (by kernel_rfl) (fun _ _ _ h=>h) (by rfl) ?y5x16q52 (by assumption) ?z5x16q52
   case y5x16q52=>intro wq hSw;(go_simp);(try with_reducible rfl)
   try simp only [Act.put,sA,sB,sC]
   refine wpAnyH_done (by kernel_rfl) ?_ _
   have q0:=KB.cell 0 _ rfl
   have q1:=KB.cell 1 _ rfl
   have q2:=KB.cell 2 _ rfl
   have KF:=FIN.out _ hHeld.1
   clear hHeld KB
   go_wp2_with fail
   refine bodyPost_ret (v:=.tuple #[.agg #[.int .i64 Y.id,.string Y.key,.int .u32 Y.word],.bool (false)]) (by simp [results,Tryz.results126,go_sem, *]) rfl ⟨Y,false,rfl,HO.out,KF⟩
  | true =>
   cases hless:Op.bytesLess Y.key.toList x.key.toList with
   | false =>
    have HO:Hid (hopN N L s.toList false x lev=none):=lH (by unfold hopN;rw [if_neg (by simp),← HFR.out];simp [hless])
    clear HFR
    refine wp_region_held_drew (S:=RH g12 wx) (by kernel_rfl) (⟨(Exb.refl g12 wx).drew,_,_,_,B12⟩) (fun hHeld=>?_)
    refine tkH 0 (v:=?_) rfl (by kernel_rfl) (fun _ _ _ h=>h) (by rfl) ?y6x0q1 (by assumption) ?z6x0q1
    case y6x0q1=>intro wq hSw;(have c0:=Chg.cellv hSw.1 y0 hyg;have c1:=Chg.cellv hSw.1 y1 hyg;have c2:=Chg.cellv hSw.1 y2 hyg;go_simp);(try with_reducible rfl)
    try simp only [Act.put,sA,sB,sC]
    refine tkH 1 (v:=?_) rfl (by kernel_rfl) (fun _ _ _ h=>h) (by rfl) ?y6x1q4 (by assumption) ?z6x1q4
    case y6x1q4=>intro wq hSw;(go_simp);(try with_reducible rfl)
    try simp only [Act.put,sA,sB,sC]
    refine tkH 2 (v:=?_) rfl (by kernel_rfl) (fun _ _ _ h=>h) (by rfl) ?y6x2q7 (by assumption) ?z6x2q7
    case y6x2q7=>intro wq hSw;(go_simp);(try with_reducible rfl)
    try simp only [Act.put,sA,sB,sC]
    refine tkH 3 (v:=?_) rfl (by kernel_rfl) (fun _ _ _ h=>h) (by rfl) ?y6x3q10 (by assumption) ?z6x3q10
    case y6x3q10=>intro wq hSw;(go_simp);(try with_reducible rfl)
    try simp only [Act.put,sA,sB,sC]
    refine tkH 4 (v:=?_) rfl (by kernel_rfl) (fun _ _ _ h=>h) (by rfl) ?y6x4q13 (by assumption) ?z6x4q13
    case y6x4q13=>intro wq hSw;(have c1:=Chg.cellv hSw.1 y1 hyg;go_simp);(try with_reducible rfl)
    try simp only [Act.put,sA,sB,sC]
    refine tkH 5 (v:=?_) rfl (by kernel_rfl) (fun _ _ _ h=>h) (by rfl) ?y6x5q16 (by assumption) ?z6x5q16
    case y6x5q16=>intro wq hSw;(go_simp);(try with_reducible rfl)
    try simp only [Act.put,sA,sB,sC]
    refine tkH 6 (v:=?_) rfl (by kernel_rfl) (fun _ _ _ h=>h) (by rfl) ?y6x6q19 (by assumption) ?z6x6q19
    case y6x6q19=>intro wq hSw;(have c1:=Chg.cellv hSw.1 x1 hxg;go_simp);(try with_reducible rfl)
    try simp only [Act.put,sA,sB,sC]
    refine tkH 7 (v:=?_) rfl (by kernel_rfl) (fun _ _ _ h=>h) (by rfl) ?y6x7q22 (by assumption) ?z6x7q22
    case y6x7q22=>intro wq hSw;(go_simp);(try with_reducible rfl)
    try simp only [Act.put,sA,sB,sC]
    refine tkH 8 (v:=?_) rfl (by kernel_rfl) (fun _ _ _ h=>h) (by rfl) ?y6x8q25 (by assumption) ?z6x8q25
    case y6x8q25=>intro wq hSw;(go_simp);(try with_reducible rfl)
    try simp only [Act.put,sA,sB,sC]
    refine tkH 9 (v:=?_) rfl (by kernel_rfl) (fun _ _ _ h=>h) (by rfl) ?y6x9q28 (by assumption) ?z6x9q28
    case y6x9q28=>intro wq hSw;(go_simp);(try with_reducible rfl)
    try simp only [Act.put,sA,sB,sC]
    refine wpAnyH_take (i:=10) (oi:=⟨_,_,_,_,_,_⟩) (v:=undef) rfl (by kernel_rfl) (by kernel_rfl) (by kernel_rfl) (fun _ _ _ h=>h) (Or.inr ⟨by rfl,rfl⟩) (by assumption) ?_
    try simp only [Act.put,sA,sB,sC]
    refine wpAnyH_take (i:=11) (oi:=⟨_,_,_,_,_,_⟩) (v:=undef) rfl (by kernel_rfl) (by kernel_rfl) (by kernel_rfl) (fun _ _ _ h=>h) (Or.inr ⟨by rfl,rfl⟩) (by assumption) ?_
    try simp only [Act.put,sA,sB,sC]
    refine wpAnyH_take (i:=12) (oi:=⟨_,_,_,_,_,_⟩) (v:=undef) rfl (by kernel_rfl) (by kernel_rfl) (by kernel_rfl) (fun _ _ _ h=>h) (Or.inr ⟨by rfl,rfl⟩) (by assumption) ?_
    try simp only [Act.put,sA,sB,sC]
    refine wpAnyH_take (i:=13) (oi:=⟨_,_,_,_,_,_⟩) (v:=undef) rfl (by kernel_rfl) (by kernel_rfl) (by kernel_rfl) (fun _ _ _ h=>h) (Or.inr ⟨by rfl,rfl⟩) (by assumption) ?_
    try simp only [Act.put,sA,sB,sC]
    refine tkH 14 (v:=?_) rfl (by kernel_rfl) (fun _ _ _ h=>h) (by rfl) ?y6x14q39 (by assumption) ?z6x14q39
    case y6x14q39=>intro wq hSw;(go_simp);(try with_reducible rfl)
    try simp only [Act.put,sA,sB,sC]
    refine wpAnyH_ready (rs:=[15]) (by kernel_rfl) (by simp) ?_
    refine AllReadyH.cons (o:=⟨_,_,_,_,_,_⟩) rfl (fun K hK=>?_) AllReadyH.nil
    have q0:=B12.cell 0 _ rfl
    have q1:=B12.cell 1 _ rfl
    have q2:=B12.cell 2 _ rfl
    have z0:=B12.free 0
    have z1:=B12.free 1
    have z2:=B12.free 2
    have KB:=((B12.set 0 (.int .i64 Y.id)).set 1 (.string Y.key)).set 2 (.int .u32 Y.word)
    simp only [List.set_cons_zero,List.set_cons_succ] at KB
    go_simp
    clear q0 q1 q2 z0 z1 z2
    refine hK.out _ _ (⟨((((Exb.refl g12 wx).setB (p:=⟨g12,0,none⟩) (.int .i64 Y.id) rfl).setB (p:=⟨g12,1,none⟩) (.string Y.key) rfl).setB (p:=⟨g12,2,none⟩) (.int .u32 Y.word) rfl).drew,_,_,_,KB⟩) (fun hHeld=>?_)
    clear hK K
    try simp only [Act.put,sA,sB,sC]
    refine tkH 16 (v:=?_) rfl (by kernel_rfl) (fun _ _ _ h=>h) (by rfl) ?y6x16q57 (by assumption) ?z6x16q57
    case y6x16q57=>intro wq hSw;(go_simp);(try with_reducible rfl)
    try simp only [Act.put,sA,sB,sC]
    refine wpAnyH_done (by kernel_rfl) ?_ _
    have q0:=KB.cell 0 _ rfl
    have q1:=KB.cell 1 _ rfl
    have q2:=KB.cell 2 _ rfl
    have KF:=FIN.out _ hHeld.1
    clear hHeld KB
    go_wp2_with fail
    refine bodyPost_ret (v:=.tuple #[.agg #[.int .i64 Y.id,.string Y.key,.int .u32 Y.word],.bool (false)]) (by simp [results,Tryz.results126,go_sem, *]) rfl ⟨Y,false,rfl,HO.out,KF⟩
   | true =>
    have HO:Hid (hopN N L s.toList false x lev=if (Op.bytesLess s.toList Y.key.toList)=true then some Y else none):=lH (by unfold hopN;rw [if_neg (by simp),← HFR.out];simp [hless])
    have LE:(!(Op.bytesLess Y.key.toList s.toList||Y.key.toList==s.toList))=Op.bytesLess s.toList Y.key.toList:=by rw [le_not,Bool.not_not]
    clear HFR
    refine wp_region_held_drew (S:=RH g12 wx) (by kernel_rfl) (⟨(Exb.refl g12 wx).drew,_,_,_,B12⟩) (fun hHeld=>?_)
    refine tkH 0 (v:=?_) rfl (by kernel_rfl) (fun _ _ _ h=>h) (by rfl) ?y7x0q1 (by assumption) ?z7x0q1
    case y7x0q1=>intro wq hSw;(have c0:=Chg.cellv hSw.1 y0 hyg;have c1:=Chg.cellv hSw.1 y1 hyg;have c2:=Chg.cellv hSw.1 y2 hyg;go_simp);(try with_reducible rfl)
    try simp only [Act.put,sA,sB,sC]
    refine tkH 1 (v:=?_) rfl (by kernel_rfl) (fun _ _ _ h=>h) (by rfl) ?y7x1q4 (by assumption) ?z7x1q4
    case y7x1q4=>intro wq hSw;(go_simp);(try with_reducible rfl)
    try simp only [Act.put,sA,sB,sC]
    refine tkH 2 (v:=?_) rfl (by kernel_rfl) (fun _ _ _ h=>h) (by rfl) ?y7x2q7 (by assumption) ?z7x2q7
    case y7x2q7=>intro wq hSw;(go_simp);(try with_reducible rfl)
    try simp only [Act.put,sA,sB,sC]
    refine tkH 3 (v:=?_) rfl (by kernel_rfl) (fun _ _ _ h=>h) (by rfl) ?y7x3q10 (by assumption) ?z7x3q10
    case y7x3q10=>intro wq hSw;(go_simp);(try with_reducible rfl)
    try simp only [Act.put,sA,sB,sC]
    refine tkH 4 (v:=?_) rfl (by kernel_rfl) (fun _ _ _ h=>h) (by rfl) ?y7x4q13 (by assumption) ?z7x4q13
    case y7x4q13=>intro wq hSw;(have c1:=Chg.cellv hSw.1 y1 hyg;go_simp);(try with_reducible rfl)
    try simp only [Act.put,sA,sB,sC]
    refine tkH 5 (v:=?_) rfl (by kernel_rfl) (fun _ _ _ h=>h) (by rfl) ?y7x5q16 (by assumption) ?z7x5q16
    case y7x5q16=>intro wq hSw;(go_simp);(try with_reducible rfl)
    try simp only [Act.put,sA,sB,sC]
    refine tkH 6 (v:=?_) rfl (by kernel_rfl) (fun _ _ _ h=>h) (by rfl) ?y7x6q19 (by assumption) ?z7x6q19
    case y7x6q19=>intro wq hSw;(have c1:=Chg.cellv hSw.1 x1 hxg;go_simp);(try with_reducible rfl)
    try simp only [Act.put,sA,sB,sC]
    refine tkH 7 (v:=?_) rfl (by kernel_rfl) (fun _ _ _ h=>h) (by rfl) ?y7x7q22 (by assumption) ?z7x7q22
    case y7x7q22=>intro wq hSw;(go_simp);(try with_reducible rfl)
    try simp only [Act.put,sA,sB,sC]
    refine tkH 8 (v:=?_) rfl (by kernel_rfl) (fun _ _ _ h=>h) (by rfl) ?y7x8q25 (by assumption) ?z7x8q25
    case y7x8q25=>intro wq hSw;(go_simp);(try with_reducible rfl)
    try simp only [Act.put,sA,sB,sC]
    refine tkH 9 (v:=?_) rfl (by kernel_rfl) (fun _ _ _ h=>h) (by rfl) ?y7x9q28 (by assumption) ?z7x9q28
    case y7x9q28=>intro wq hSw;(go_simp);(try with_reducible rfl)
    try simp only [Act.put,sA,sB,sC]
    refine tkH 10 (v:=?_) rfl (by kernel_rfl) (fun _ _ _ h=>h) (by rfl) ?y7x10q31 (by assumption) ?z7x10q31
    case y7x10q31=>intro wq hSw;(go_simp);(try with_reducible rfl)
    try simp only [Act.put,sA,sB,sC]
    refine tkH 11 (v:=?_) rfl (by kernel_rfl) (fun _ _ _ h=>h) (by rfl) ?y7x11q34 (by assumption) ?z7x11q34
    case y7x11q34=>intro wq hSw;(have c1:=Chg.cellv hSw.1 y1 hyg;go_simp);(try with_reducible rfl)
    try simp only [Act.put,sA,sB,sC]
    refine tkH 12 (v:=?_) rfl (by kernel_rfl) (fun _ _ _ h=>h) (by rfl) ?y7x12q37 (by assumption) ?z7x12q37
    case y7x12q37=>intro wq hSw;(go_simp);(try with_reducible rfl)
    try simp only [Act.put,sA,sB,sC]
    refine tkH 13 (v:=?_) rfl (by kernel_rfl) (fun _ _ _ h=>h) (by rfl) ?y7x13q40 (by assumption) ?z7x13q40
    case y7x13q40=>intro wq hSw;(go_simp);(try with_reducible rfl)
    try simp only [Act.put,sA,sB,sC]
    refine tkH 14 (v:=?_) rfl (by kernel_rfl) (fun _ _ _ h=>h) (by rfl) ?y7x14q43 (by assumption) ?z7x14q43
    case y7x14q43=>intro wq hSw;(go_simp);(try with_reducible rfl)
    try simp only [Act.put,sA,sB,sC]
    refine wpAnyH_ready (rs:=[15]) (by kernel_rfl) (by simp) ?_
    refine AllReadyH.cons (o:=⟨_,_,_,_,_,_⟩) rfl (fun K hK=>?_) AllReadyH.nil
    have q0:=B12.cell 0 _ rfl
    have q1:=B12.cell 1 _ rfl
    have q2:=B12.cell 2 _ rfl
    have z0:=B12.free 0
    have z1:=B12.free 1
    have z2:=B12.free 2
    have KB:=((B12.set 0 (.int .i64 Y.id)).set 1 (.string Y.key)).set 2 (.int .u32 Y.word)
    simp only [List.set_cons_zero,List.set_cons_succ] at KB
    go_simp
    clear q0 q1 q2 z0 z1 z2
    refine hK.out _ _ (⟨((((Exb.refl g12 wx).setB (p:=⟨g12,0,none⟩) (.int .i64 Y.id) rfl).setB (p:=⟨g12,1,none⟩) (.string Y.key) rfl).setB (p:=⟨g12,2,none⟩) (.int .u32 Y.word) rfl).drew,_,_,_,KB⟩) (fun hHeld=>?_)
    clear hK K
    try simp only [Act.put,sA,sB,sC]
    refine tkH 16 (v:=?_) rfl (by kernel_rfl) (fun _ _ _ h=>h) (by rfl) ?y7x16q61 (by assumption) ?z7x16q61
    case y7x16q61=>intro wq hSw;(go_simp);(try with_reducible rfl)
    try simp only [Act.put,sA,sB,sC]
    refine wpAnyH_done (by kernel_rfl) ?_ _
    have q0:=KB.cell 0 _ rfl
    have q1:=KB.cell 1 _ rfl
    have q2:=KB.cell 2 _ rfl
    have KF:=FIN.out _ hHeld.1
    clear hHeld KB
    go_wp2_with fail
    refine bodyPost_ret (v:=.tuple #[.agg #[.int .i64 Y.id,.string Y.key,.int .u32 Y.word],.bool (Op.bytesLess s.toList Y.key.toList)]) (by simp [results,Tryz.results126,go_sem, *]) rfl ⟨Y,Op.bytesLess s.toList Y.key.toList,rfl,HO.out,KF⟩
theorem NL.lkb {b:Nat} {w:World} {a:Option Addr} {n:Nat} {L:List Lkd} (h:LkL w a n L) (hb:w.heap.size≤b):LkB b w a n L:=by
 obtain ⟨qs,h1,h2,h3⟩:=h
 exact ⟨qs,h1.slb hb,h2,fun j q c hq hc=>⟨(h3 j q c hq hc).1,(h3 j q c hq hc).2.slb hb⟩⟩
def RrRel (N:List Nd) (L:List Lkd) (key:List UInt8) (right:Bool) (R:Nd×List Hop) (g base:Nat) (w0:World) (o l:Value) (wr:World):Prop :=
 ∃ (x:Nd) (lev:Nat) (z:Int) (out:List Hop),l=.int .i64 z∧z=(lev:Int)-1∧lev≤17∧OwnL 3 encHp 147 base wr o out∧Blk wr g [.int .i64 x.id,.string x.key,.int .u32 x.word] 49 ∧
  RtSt N L key right R x lev out∧x∈N∧out.length+bey N right x≤N.length∧Exb g w0 wr
theorem fldL (u v:Value) (w:World) (h1:u.cells=#[u]) (h2:v.cells=#[v]):(Instr.field 81 (.agg #[u,v]) 0).run Tryz.prog w=.ok u w:=by
 kernel_rfl
theorem meas_dn (q n t:Nat):((q:Int)-1+1).toNat*(n+1)+t<((q:Int)+1).toNat*(n+1)+t:=by
 have h1:((q:Int)-1+1).toNat=q:=by omega
 have h2:((q:Int)+1).toNat=q+1:=by omega
 rw [h1,h2,Nat.add_mul]
 omega
set_option maxRecDepth 100000 in
set_option maxHeartbeats 8000000 in
theorem route_r (a:Option Addr) (n c:Nat) (N:List Nd) (a2:Option Addr) (n2 c2:Nat) (L:List Lkd) (frm:Int) (s:ByteArray) (w:World) (h:Sl 3 encN w a n N) (hn:n≤1000) (h2:LkL w a2 n2 L) (hn2:n2≤1000000)
  (hs:∀ c∈L,c.2.length≤9223372036854775807) :
  Calls Tryz.prog 67 #[.slice a n c,.slice a2 n2 c2,.int .i64 frm,.string s] w (RtPost (routeN N L frm s) w):=by
 have HS:=lH hs
 have hlen:=h.len
 have HLN:=lH hlen
 clear hs hlen
 go_enter Tryz.func67,Tryz.ntmps67
 go_wp2_with fail
 (with_reducible refine (is_r _ _ _ _ _ h (by omega)).mono ?_)
 rintro e w1 ⟨rfl,kk⟩
 have SN:=h.nx kk
 have SL:=lH (h2.nx kk)
 have EX:=lH kk
 clear h h2 kk
 by_cases hck:checkN N=0
 ·have HC:=lH hck
  have hcb:(checkN N==0)=true:=by rw [hck];rfl
  rw [hcb]
  clear hck hcb
  go_wp2_with fail
  (with_reducible refine (vkey_r _ _).mono ?_)
  rintro e w1' ⟨rfl,rfl⟩
  by_cases hsz:(s.size:Int)≤64
  ·have HSZ:=lH hsz
   rw [decide_eq_true hsz]
   clear hsz
   go_wp2_with fail
   (with_reducible refine (find_r _ _ _ _ _ _ SN (by omega)).mono ?_)
   rintro e w2 ⟨rfl,kk⟩
   obtain ⟨FR,hFR⟩:∃ FR,FR=findN N frm:=⟨_,rfl⟩
   rw [← hFR]
   have HFR:=lH hFR
   replace SN:=SN.nx kk
   have SL:=lH (SL.out.nx kk)
   have EX:=lH (EX.out.nx kk)
   obtain ⟨x,ok⟩:=FR
   unfold Nd.val
   simp only
   clear kk hFR
   have B:=Blk.new w2 [.int .i64 x.id,.string x.key,.int .u32 x.word] 49
   have kk:=Ex.new w2 (.cells #[.int .i64 x.id,.string x.key,.int .u32 x.word] 49)
   obtain ⟨w3,hw3⟩:∃ w3,w3=w2.alloc (.cells #[.int .i64 x.id,.string x.key,.int .u32 x.word] 49):=⟨_,rfl⟩
   obtain ⟨g,hg⟩:∃ g,g=w2.heap.size:=⟨_,rfl⟩
   have B:Blk w3 g [.int .i64 x.id,.string x.key,.int .u32 x.word] 49:=by rw [hw3,hg];exact B
   rw [← hw3] at kk
   have HW3:=lH hw3
   have HG:=lH hg
   have SN:Slb 3 encN g w3 a n N:=(SN.slb (by omega)).nxb (kk.b g)
   have SL:=lH ((NL.lkb SL.out (show w2.heap.size≤g by omega)).nxb (kk.b g))
   have hgw:w.heap.size≤g:=by rw [hg];exact EX.out.size
   have EX:=lH (EX.out.nx kk)
   clear kk hw3 hg
   go_upto_region 4 with fail
   rw [← HG.out,← HW3.out]
   clear HG HW3
   cases ok with
   | false =>
    have RN:=lH (route_unk (L:=L) (show ¬ (checkN N≠0∨64<s.size) by rintro (h | h);exact h HC.out;have:=HSZ.out;omega) (show (findN N frm).2=false by rw [← HFR.out]))
    clear SN B
    go_wp2_with fail
    go_ret2
    exact ⟨_,by rw [RN.out];rfl,by rw [RN.out];exact OwnL.nil _ _ _ _ _,EX.out⟩
   | true =>
    have b1:=B.cell 1 _ rfl
    obtain ⟨right,hr⟩:∃ right,right = !Op.bytesLess s.toList x.key.toList:=⟨_,rfl⟩
    have HR:=lH hr
    have hx:x∈N:=by have:=(findN_mem (show (findN N frm).2=true by rw [← HFR.out])).1;rw [← HFR.out] at this;exact this
    clear hr
    go_upto_region 7 with fail
    rw [← HR.out]
    clear b1
    go_wp2_with fail
    (with_reducible refine (top_r _ _ _ _ _ _ SL.out.nl hn2 HS.out).mono ?_)
    rintro e w4 ⟨rfl,kk⟩
    obtain ⟨T,hT⟩:∃ T,T=topL L frm:=⟨_,rfl⟩
    rw [← hT]
    have ht1:-1≤T∧T≤16:=by
     rw [hT];unfold topL;split<;>omega
    have HT:=lH hT
    replace SN:=SN.nxb (kk.b g)
    replace B:=B.nx kk
    have SL:=lH (SL.out.nxb (kk.b g))
    have EX:=lH (EX.out.nx kk)
    have hgl:=B.lt
    clear kk hT
    obtain ⟨R,hR⟩:∃ R,R=rtF N L s.toList right (18*(N.length+1)) x (T+1).toNat []:=⟨_,rfl⟩
    have ST:Hid (RrRel N L s.toList right R g w4.heap.size w4 (.slice none 0 0) (.int .i64 T) w4):=lH
     ⟨x,(T+1).toNat,T,[],rfl,by omega,by omega,OwnL.nil _ _ _ _ _,B,by rw [hR];exact RtSt.start (by omega),hx,by simpa using bey_le (N:=N) (right:=right) x,Exb.refl _ _⟩
    have HRR:=lH hR
    have hcl:=check_lenU HC.out
    rw [HLN.out] at hcl
    have HX:=lH hx
    clear hR hx
    have SN:=lH SN
    clear B
    go_wp2_with fail
    go_loopw [13,14] (fun o l wr=>RrRel N L s.toList right R g w4.heap.size w4 o l wr) (fun o l _=>(intOf l+1).toNat*(n+1)+(n-lenS o))
    case atStart=>exact ST.out
    case round =>
     clear ST
     obtain ⟨x,lev,z,out,rfl,hz,hl17,own,B,hst,hxN,hcnt,kw⟩:=hrel
     obtain ⟨wo,rfl⟩:∃ wo:World,wo=wr:=⟨_,rfl⟩
     have hlo:=lenS_own own
     have HN1:=HLN.out
     have hol:out.length≤64:=by omega
     have OWN:=lH own
     have KW:=lH kw
     have HST:=lH hst
     have HXN:=lH hxN
     have HLO:=lH hlo
     have SO:=SN.out.nxb kw
     have LO:=SL.out.nxb kw
     have b0:=B.cell 0 _ rfl
     have b1:=B.cell 1 _ rfl
     have b2:=B.cell 2 _ rfl
     cases lev with
     | zero =>
      obtain rfl:z = -1:=by omega
      have RV:=lH (route_val (show ¬ (checkN N≠0∨64<s.size) by rintro (h | h);exact h HC.out;have:=HSZ.out;omega) HFR.out HR.out HT.out HRR.out (HST.out.done))
      have EW:=lH (Exl.nxb (b:=g) (w:=w) ⟨EX.out,hgw⟩ KW.out)
      have OWN:=lH (OwnL.base OWN.out EX.out.size)
      have SO:=SO.sl
      have LO:=LO.nl
      have KX:=Ex.refl wo
      clear own kw hst hxN hlo hz HN1 B b1 b2
      go_wp2_with fail
      (with_reducible refine (at_r _ _ _ _ _ 0 _ LO hn2 (by omega)).mono ?_)
      rintro e w5 ⟨rfl,kk⟩
      obtain ⟨P,hP⟩:∃ P,P=atL L x.id 0:=⟨_,rfl⟩
      rw [← hP]
      rw [← hP] at RV
      have HP:=lH hP
      replace SO:=SO.nx kk
      have OWN:=lH (OWN.out.nx kk)
      have EW:=lH (EW.out.nx kk)
      have b0:=Chg.cellv kk b0 (World.block_lt_of_cell? wo _ b0)
      have FL:∀ w:World,(Instr.field 81 (.agg #[.int .i64 P.1,.int .i64 P.2]) 0).run Tryz.prog w=.ok (.int .i64 P.1) w:=fun w=>fldL _ _ w rfl rfl
      clear kk hP KX LO
      go_wp2_with fail
      (with_reducible refine (find_r _ _ _ _ _ _ SO (by omega)).mono ?_)
      rintro e w6 ⟨rfl,kk⟩
      obtain ⟨E,hE⟩:∃ E,E=findN N P.1:=⟨_,rfl⟩
      rw [← hE]
      rw [← hE] at RV
      have OWN:=lH (OWN.out.nx kk)
      have EW:=lH (EW.out.nx kk)
      have b0:=Chg.cellv kk b0 (World.block_lt_of_cell? w5 _ b0)
      obtain ⟨E,eo⟩:=E
      unfold Nd.val
      simp only at RV ⊢
      clear kk hE SO
      have B17:=Blk.new w6 [.int .i64 E.id,.string E.key,.int .u32 E.word] 49
      have kk:=Ex.new w6 (.cells #[.int .i64 E.id,.string E.key,.int .u32 E.word] 49)
      obtain ⟨w7,hw7⟩:∃ w7,w7=w6.alloc (.cells #[.int .i64 E.id,.string E.key,.int .u32 E.word] 49):=⟨_,rfl⟩
      obtain ⟨g17,hg17⟩:∃ g17,g17=w6.heap.size:=⟨_,rfl⟩
      have B17:Blk w7 g17 [.int .i64 E.id,.string E.key,.int .u32 E.word] 49:=by rw [hw7,hg17];exact B17
      rw [← hw7] at kk
      have HW7:=lH hw7
      have HG17:=lH hg17
      have OWN:=lH (OWN.out.nx kk)
      have EW:=lH (EW.out.nx kk)
      have b0:=Chg.cellv kk b0 (World.block_lt_of_cell? w6 _ b0)
      have e0:=B17.cell 0 _ rfl
      have e1:=B17.cell 1 _ rfl
      have LE:(Op.bytesLess E.key.toList s.toList||E.key.toList==s.toList) = !Op.bytesLess s.toList E.key.toList:=le_not _ _
      have hzw:w.heap.size≤w7.heap.size:=EW.out.1.size
      clear kk hw7 hg17 B17
      go_upto_region 16 with fail
      rw [← HG17.out,← HW7.out]
      clear HG17 HW7
      have fin0:routeN N L frm s=(out,0)→RtPost (routeN N L frm s) w (.returned (.tuple #[u13,.int .i64 0])) w7:=fun h=>by rw [h];exact ⟨_,rfl,OWN.out,EW.out.1⟩
      have FIN0:=lH fin0
      clear fin0
      cases eo with
      | false =>
       have RZ:=lH (RV.out.trans (if_neg (by simp)))
       clear RV
       go_wp2_with fail
       go_ret2
       exact FIN0.out RZ.out
      | true =>
       cases hri:right with
       | true =>
        have RZ:=lH (RV.out.trans (if_neg (by rw [hri];simp)))
        clear RV
        go_wp2_with fail
        go_ret2
        exact FIN0.out RZ.out
       | false =>
        cases hle:Op.bytesLess s.toList E.key.toList with
        | true =>
         have RZ:=lH (RV.out.trans (if_neg (by rw [hle];simp)))
         clear RV
         go_wp2_with fail
         go_ret2
         exact FIN0.out RZ.out
        | false =>
         have RZ:=lH (RV.out.trans (if_pos (by rw [hle,hri];simp)))
         clear RV FIN0
         go_wp2_with (at_builtin;(refine wpList_append_lit (enc:=encHp) w7 rfl _ _ 88 rfl w.heap.size 147 (.agg #[.int .i64 0,.int .i64 0,.int .i64 0]) 3 24 Tryz.underlying88 Tryz.infoHp rfl (by omega) (by omega) _ _ OWN.out rfl ((x.id,E.id,0):Hop) _ rfl rfl (by simp [encHp,Value.oneCell']) _ (by simp) rfl (by omega) (by omega) _ ?_);intro v9 w9 own9 ch0 ch1 _;have OWN9:=lH own9;have CH1:=lH ch1;clear own9 ch0 ch1)
         go_ret2
         exact ⟨_,by rw [RZ.out];rfl,by rw [RZ.out];exact OWN9.out,Chg.trans EW.out.1 CH1.out⟩
     | succ q =>
      obtain rfl:z=(q:Int):=by omega
      have HCNT:=lH hcnt
      clear own kw hst hxN hlo hz HN1
      go_wp2_with fail
      (with_reducible refine (next_r _ _ _ _ _ _ _ _ _ _ _ _ _ SO.sl hn LO.nl hn2 (by omega)).mono ?_)
      rintro e w5 ⟨Y,ok,rfl,ho,kk⟩
      have HO:=lH ho
      have SO:=lH SO
      have BX:=lH (B.nx kk)
      have OWN:=lH (OWN.out.nx kk)
      have KW:=lH (KW.out.nxb (kk.b g))
      clear kk ho b0 b1 b2 B LO SO
      have BY:=Blk.new w5 [.int .i64 Y.id,.string Y.key,.int .u32 Y.word] 49
      have kk:=Ex.new w5 (.cells #[.int .i64 Y.id,.string Y.key,.int .u32 Y.word] 49)
      obtain ⟨w6,hw6⟩:∃ w6,w6=w5.alloc (.cells #[.int .i64 Y.id,.string Y.key,.int .u32 Y.word] 49):=⟨_,rfl⟩
      obtain ⟨gy,hgy⟩:∃ gy,gy=w5.heap.size:=⟨_,rfl⟩
      have BY:Blk w6 gy [.int .i64 Y.id,.string Y.key,.int .u32 Y.word] 49:=by rw [hw6,hgy];exact BY
      rw [← hw6] at kk
      have HW6:=lH hw6
      have HGY:=lH hgy
      have hgyb:w4.heap.size≤gy:=by rw [hgy];exact KW.out.size
      have hno:∀ v x,OwnL 3 encHp 147 w4.heap.size w5 v x→¬ v.ownBlock=some gy:=fun v x hv he=>by
       obtain ⟨_,cur,h1⟩:=OwnL.blk hv he
       have:=heap_lt h1
       omega
      have HNO:=lH (hno _ _ OWN.out)
      have BX:=BX.out.nx kk
      have OWN:=lH (OWN.out.nx kk)
      have KW:=lH (KW.out.nxb (kk.b g))
      clear kk hw6 hgy hno
      go_upto_region 11 with fail
      rw [← HGY.out,← HW6.out]
      clear HGY HW6
      cases ok with
      | false =>
       have RR:=lH (show RrRel N L s.toList right R g w4.heap.size w4 u13 (.int .i64 ((q:Int)-1)) w6 from
        ⟨x,q,(q:Int)-1,out,rfl,rfl,by omega,OWN.out,BX,HST.out.down HO.out,HXN.out,HCNT.out,KW.out⟩)
       clear BX BY
       go_wp2_with fail
       refine ⟨RR.out,?_⟩
       show ((q:Int)-1+1).toNat*(n+1)+(n-lenS u13)<((q:Int)+1).toNat*(n+1)+(n-lenS u13)
       exact meas_dn _ _ _
      | true =>
       have hh:hopN N L s.toList right x q=some Y:=by rw [HO.out];rfl
       have hbl:=bey_lt hh
       have HH:=lH hh
       have hyl:=BY.lt
       have y0:=BY.cell 0 _ rfl
       have b0:=BX.cell 0 _ rfl
       have hz4:w4.heap.size≤w6.heap.size:=KW.out.size
       have HB:=lH (And.intro BX BY)
       clear hh BX BY
       go_wp2_with (at_builtin;(refine wpList_append_lit (enc:=encHp) w6 rfl _ _ 88 rfl w4.heap.size 147 (.agg #[.int .i64 0,.int .i64 0,.int .i64 0]) 3 24 Tryz.underlying88 Tryz.infoHp rfl (by omega) (by omega) _ _ OWN.out rfl ((x.id,Y.id,(q:Int)):Hop) _ rfl rfl (by simp [encHp,Value.oneCell']) _ (by simp) rfl (by omega) (by omega) _ ?_);intro v9 w9 own9 ch0 ch1 _;have BY9:=Blk.chg HB.out.2 ch0 ⟨hyl,HNO.out⟩;have BX9:=Blk.chg HB.out.1 ch1 hgl;have y0:=BY9.cell 0 _ rfl;have y1:=BY9.cell 1 _ rfl;have y2:=BY9.cell 2 _ rfl;have b0:=BX9.cell 0 _ rfl;have b1:=BX9.cell 1 _ rfl;have b2:=BX9.cell 2 _ rfl;have z0:=BX9.free 0;have z1:=BX9.free 1;have z2:=BX9.free 2;have OWN9:=lH own9;have CH1:=lH ch1;have HB9:=lH BX9;clear own9 ch0 ch1 BX9 BY9)
       have hl9:=lenS_own OWN9.out
       have hl8:=HLO.out
       have KW9:Exb g w4 w9:=Chg.trans KW.out (CH1.out.mono (fun x hx=>hx.1))
       have hcn:=HCNT.out
       have hn9:=HLN.out
       refine ⟨⟨Y,q+1,(q:Int),out++[(x.id,Y.id,(q:Int))],rfl,by omega,by omega,
        OWN9.out.nxb hgl ((((Exb.refl g w9).setB (p:=⟨g,0,none⟩) (.int .i64 Y.id) rfl).setB (p:=⟨g,1,none⟩) (.string Y.key) rfl).setB (p:=⟨g,2,none⟩) (.int .u32 Y.word) rfl),
        ((HB9.out.set 0 (.int .i64 Y.id)).set 1 (.string Y.key)).set 2 (.int .u32 Y.word),HST.out.hop HH.out,(hop_mem HH.out).1,by rw [List.length_append,List.length_singleton];omega,
        ((KW9.setB (p:=⟨g,0,none⟩) (.int .i64 Y.id) rfl).setB (p:=⟨g,1,none⟩) (.string Y.key) rfl).setB (p:=⟨g,2,none⟩) (.int .u32 Y.word) rfl⟩,?_⟩
       show ((q:Int)+1).toNat*(n+1)+(n-lenS v9)<((q:Int)+1).toNat*(n+1)+(n-lenS u13)
       rw [hl9,hl8,List.length_append,List.length_singleton]
       omega
  ·have RN:=lH (route_bad (L:=L) (frm:=frm) (show checkN N≠0∨64<s.size from .inr (by omega)))
   rw [decide_eq_false hsz]
   clear SN hsz
   go_wp2_with fail
   go_ret2
   exact ⟨_,by rw [RN.out];rfl,by rw [RN.out];exact OwnL.nil _ _ _ _ _,EX.out⟩
 ·have RN:=lH (route_bad (L:=L) (frm:=frm) (s:=s) (.inl hck))
  have hcb:(checkN N==0)=false:=by rw [beq_eq_false_iff_ne];exact hck
  rw [hcb]
  clear SN hck hcb
  go_wp2_with fail
  go_ret2
  exact ⟨_,by rw [RN.out];rfl,by rw [RN.out];exact OwnL.nil _ _ _ _ _,EX.out⟩
end Go.Proofs.YtalmjklljofhbaaGreatDoor
