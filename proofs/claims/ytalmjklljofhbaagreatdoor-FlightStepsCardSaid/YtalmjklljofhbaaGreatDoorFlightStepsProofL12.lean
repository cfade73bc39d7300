/- Texts for FlightStepsProof. -/
import Derived.Test.YtalmjklljofhbaaGreatDoorFlightStepsProofL3
set_option linter.unusedSimpArgs false
set_option linter.unusedVariables false

namespace Go.Proofs.YtalmjklljofhbaaGreatDoor
open Go.RowKit
def I64 (x:Int):Prop:=-9223372036854775808≤x∧x≤9223372036854775807
set_option maxHeartbeats 1000000 in
theorem id_t {b:Nat} (a:Option Addr) (n cp:Nat) (l:List Nd) (w:World) (h:TK w b) (hs:Slb 3 encN b w a n l) (hn:n≤1000) (hi:∀ x∈l,I64 x.id) :
  Calls Tryz.prog 15 #[.pointer (some ⟨b,0,none⟩),.slice a n cp] w fun e w'=>∃ r:Int,e=.returned (.int .i64 r)∧I64 r∧TK w' b∧Exb b w w':=by
 have HI:=lH hi
 have hlen:=lH hs.len
 clear hi
 go_enter Tryz.func15,Tryz.ntmps15
 by_cases hn0:n=0
 ·have d0:((n:Int)==0)=true:=by simp;omega
  clear hs
  go_wp2_with fail
  refine (pick_t (n:=5) (-1) 4611686018427387904 [0,-1,999,4611686018427387904,1] h rfl rfl rfl (by omega) (by omega) (by intro x hx;simp at hx;omega)).mono ?_
  clear h
  rintro e w2 ⟨r,rfl,r0,r1,T,kk⟩
  go_wp2_with fail
  go_ret
  exact ⟨r,rfl,⟨by omega,by omega⟩,T,kk⟩
 ·have d0:((n:Int)==0)=false:=by simp;omega
  have hnp:0<n:=by omega
  clear hn0
  go_wp2_with fail
  refine (bool_t 8 _ h (by omega) (by omega)).mono ?_
  clear h
  rintro e w1 ⟨r,rfl,T,kk⟩
  cases r with
  | true =>
   clear hs
   go_wp2_with fail
   refine (pick_t (n:=5) (-1) 4611686018427387904 [0,-1,999,4611686018427387904,1] T rfl rfl rfl (by omega) (by omega) (by intro x hx;simp at hx;omega)).mono ?_
   clear T
   rintro e w2 ⟨r,rfl,r0,r1,T,k2⟩
   have kk:=kk.nxb k2
   clear k2
   go_wp2_with fail
   go_ret
   exact ⟨r,rfl,⟨by omega,by omega⟩,T,kk⟩
  | false =>
   have S1:=hs.nxb kk
   clear hs
   go_wp2_with fail
   refine (next_t (n:Int) _ T (by omega) (by omega)).mono ?_
   clear T
   rintro e w2 ⟨j,rfl,j0,j1,T,k2⟩
   obtain ⟨j,rfl⟩:=Int.eq_ofNat_of_zero_le j0
   have S2:=S1.nxb k2
   have kk:=kk.nxb k2
   obtain ⟨x,o,y,rfl,hx,hy,hc⟩:=S2.sl.at (j:=j) (by omega)
   have e0:w2.cell? ⟨x,o+j*3,none⟩=some (.int .i64 y.id):=hc 0 _ rfl
   have hyi:=lH (HI.out y (List.mem_of_getElem? hy))
   have hjn:(j:Int)<(n:Int):=by omega
   clear k2 S1 S2 hc hy
   go_wp2_with fail
   go_ret
   exact ⟨y.id,rfl,hyi.out,T,kk⟩
set_option maxHeartbeats 1000000 in
theorem oddkey_t {b:Nat} (w:World) (h:TK w b) (hL:LetG w) (hgb:¬ 0=b):Calls Tryz.prog 33 #[.pointer (some ⟨b,0,none⟩)] w (KeyPost 65 b w):=by
 go_enter Tryz.func33,Tryz.ntmps33
 go_wp2_with fail
 refine (bool_t 10 _ h (by omega) (by omega)).mono ?_
 clear h
 rintro e w1 ⟨r,rfl,T,kk⟩
 have L1:=hL.nxb hgb kk
 clear hL
 cases r with
 | true =>
  go_wp2_with fail
  refine (next_t 6 _ T (by omega) (by omega)).mono ?_
  clear T
  rintro e w2 ⟨j,rfl,j0,j1,T,k2⟩
  obtain ⟨j,rfl⟩:=Int.eq_ofNat_of_zero_le j0
  obtain ⟨s,hs,hc⟩:=(L1.nxb hgb k2) j (by omega)
  have kk:=kk.nxb k2
  have HS:=lH hs
  clear hs k2 L1
  go_wp2_with fail
  refine (long_x s 65 _ HS.out (by omega)).mono ?_
  rintro e w3 ⟨⟨r,rfl,hr⟩,rfl⟩
  have HR:=lH hr
  clear hr
  go_wp2_with fail
  go_ret
  exact ⟨r,rfl,Nat.le_of_eq HR.out,T,kk⟩
 | false =>
  go_wp2_with fail
  refine (key_t _ T L1 hgb).mono ?_
  clear T
  rintro e w2 ⟨s,rfl,hs,T,k2⟩
  have kk:=kk.nxb k2
  clear k2 L1
  go_wp2_with fail
  go_ret
  exact ⟨s,rfl,by omega,T,kk⟩
theorem flat_set1 {α:Type} {sz:Nat} {enc:α→List Value} (hsz:∀ y,(enc y).length=sz) {c:Nat} (hc:c<sz) {y':α} {v:Value} :
  ∀ (L:List α) (j:Nat) (y:α),L[j]?=some y→enc y'=(enc y).set c v→(L.set j y').flatMap enc=(L.flatMap enc).set (j*sz+c) v
 | [],j,y,h,_=>by simp at h
 | z::r,0,y,h,hv=>by
  simp at h;subst h
  rw [List.set_cons_zero,List.flatMap_cons,List.flatMap_cons,hv,Nat.zero_mul,Nat.zero_add,List.set_append_left _ _ (by rw [hsz];exact hc)]
 | z::r,j+1,y,h,hv=>by
  rw [List.set_cons_succ,List.flatMap_cons,List.flatMap_cons,flat_set1 hsz hc r j y (by simpa using h) hv,List.set_append_right _ _ (by rw [hsz,Nat.succ_mul];omega),hsz]
  congr 2
  rw [Nat.succ_mul];omega
theorem own_set1 {α:Type} {sz:Nat} {enc:α→List Value} (hsz:∀ y,(enc y).length=sz) {e:TypeId} {base:Nat} {w:World} {g n cap j c:Nat} {L:List α} {y:α} (h:OwnL sz enc e base w (.slice (some ⟨g,0,none⟩) n cap) L)
  (hy:L[j]?=some y) (hc:c<sz):w.cell? ⟨g,j*sz+c,none⟩=(enc y)[c]?∧w.frozen? ⟨g,j*sz+c,none⟩=false ∧
   ∀ (y':α) (v:Value),enc y'=(enc y).set c v→OwnL sz enc e base (w.setCell ⟨g,j*sz+c,none⟩ v) (.slice (some ⟨g,0,none⟩) n cap) (L.set j y'):=by
 rcases h.2 with ⟨h1,_⟩ | ⟨g',cap',cur,e1,e2,e3,e4,e5,e6,e7⟩
 ·cases h1
 ·obtain ⟨rfl,hLn,rfl⟩:g=g'∧n=L.length∧cap=cap':=by simpa using e1
  have hjl:=(List.getElem?_eq_some_iff.1 hy).1
  have hlt:j*sz+c<L.length*sz:=by
   have:(j+1)*sz≤L.length*sz:=Nat.mul_le_mul_right _ hjl
   rw [Nat.succ_mul] at this;omega
  refine ⟨?_,by simp [World.frozen?,e3],fun y' v hv=>⟨?_,.inr ⟨g,cap,_,by simp [hLn],e2,heap_set e3 _ v,by simpa using e4,e5,by simpa using e6,?_⟩⟩⟩
  ·have h2:(cur.toList.take (L.length*sz))[j*sz+c]?=(enc y)[c]?:=by
    rw [e7]
    have hcy:c<(enc y).length:=by rw [hsz];exact hc
    rw [List.getElem?_eq_getElem hcy]
    exact flat_at hsz L j y hy c _ (List.getElem?_eq_getElem hcy)
   rw [List.getElem?_take,if_pos hlt] at h2
   simpa [World.cell?,e3] using h2
  ·rw [flatN_len hsz]
  ·rw [flat_set1 hsz hc L j y hy hv,← e7,List.length_set]
   simp only [Array.toList_setIfInBounds,List.take_set]
def NOk (x:Nd):Prop:=I64 x.id∧x.word<4294967296∧x.key.size≤65
theorem roster_ok {l:List Nd} (h:checkN l=0):∀ x∈l,NOk x∧1≤x.id∧x.id≤2147483647∧x.key.size≤64∧x.word<65536:=by
 intro x hx
 have hb:badN x=false:=by
  cases hb:badN x with
  | false=>rfl
  | true =>
   exfalso
   unfold checkN at h
   have:l.any badN=true:=List.any_eq_true.2 ⟨x,hx,hb⟩
   rw [this] at h
   split at h<;>simp at h
 unfold badN validN at hb
 simp at hb
 obtain ⟨⟨⟨h1,h2⟩,h3⟩,h4⟩:=hb
 exact ⟨⟨⟨by omega,by omega⟩,by omega,by omega⟩,by omega,by omega,by omega,by omega⟩
structure OddOf (n b:Nat) (w w':World) (v:Value) (L:List Nd):Prop where
 own:OwnL 3 encN 49 w.heap.size w' v L
 len:L.length≤n+1
 pos:1≤L.length
 ok:∀ x∈L,NOk x
 tape:TK w' b
 k:Exb b w w'
theorem ok_set {L:List Nd} (h:∀ x∈L,NOk x) (j:Nat) {y:Nd} (hy:NOk y):∀ x∈L.set j y,NOk x:=fun x hx=>by
 rcases List.mem_or_eq_of_mem_set hx with h1 | rfl
 ·exact h x h1
 ·exact hy
theorem ok_snoc {L:List Nd} (h:∀ x∈L,NOk x) {y:Nd} (hy:NOk y):∀ x∈L++[y],NOk x:=fun x hx=>by
 rcases List.mem_append.1 hx with h1 | h1
 ·exact h x h1
 ·rw [List.mem_singleton.1 h1];exact hy
set_option maxRecDepth 100000 in
set_option maxHeartbeats 8000000 in
theorem oddroster_t {b:Nat} (a:Option Addr) (n cp:Nat) (l:List Nd) (w:World) (h:TK w b) (hs:Slb 3 encN b w a n l) (hnil:a=none→cp=0) (hn:n≤100) (hok:∀ x∈l,NOk x) (hL:LetG w) (hgb:¬ 0=b) :
  Calls Tryz.prog 13 #[.pointer (some ⟨b,0,none⟩),.slice a n cp] w fun e w'=>∃ v L,e=.returned v∧OddOf n b w w' v L:=by
 have OK:=lH hok
 have NIL:=lH hnil
 have hlen:=hs.len
 have hbw:=h.lt
 have own0:OwnL 3 encN 49 w.heap.size w (.slice none 0 0) []:=OwnL.nil _ _ _ _ _
 have s0:=hs.sl
 clear hok hnil
 go_enter Tryz.func13,Tryz.ntmps13
 go_upto_region 2 with (at_builtin;(refine wpList_append_rd (enc:=encN) w rfl (.const (.slice none 0 0)) (.tmp 6) 23 rfl w.heap.size 49 (.agg #[.int .i64 0,.string ByteArray.empty,.int .u32 0]) 3 32 Tryz.underlying23 Tryz.infoN rfl (by omega) (by omega) _ [] own0 rfl _ a n cp l s0 NIL.out (fun _=>rfl) (by simp [encN,Value.oneCell']) rfl (by simp) (by omega) (Nat.le_refl _) ?_);intro v1 w1 own1 ch0 ch1)
 rw [List.nil_append] at own1
 have k1:Ex w w1:=ch1
 replace h:=h.nx k1
 replace hL:=hL.nx k1
 have kk:=k1.b b
 obtain ⟨a1,c1,rfl,_,_,_,some1⟩:=own1.rd (fun _=>rfl)
 subst hlen
 have z1:=k1.size
 have k1:=lH k1
 clear own0 s0 hs ch0 ch1
 by_cases hn0:l.length=0
 ·have d0:((l.length:Int)==0)=true:=by rw [hn0];rfl
  have hl0:l=[]:=List.eq_nil_of_length_eq_zero hn0
  subst hl0
  have own1:OwnL 3 encN 49 w.heap.size w1 (.slice a1 0 c1) []:=own1
  clear some1 hn0
  go_wp2_with fail
  refine (pick_t (n:=3) (-1) 1 [0,1,-1] h rfl rfl rfl (by omega) (by omega) (by intro x hx;simp at hx;omega)).mono ?_
  clear h
  rintro e w2 ⟨r,rfl,r0,r1,T,k2⟩
  have own2:=own1.nxb hbw k2
  replace kk:=kk.nxb k2
  replace hL:=hL.nxb hgb k2
  clear own1 k2
  go_wp2_with fail
  refine (oddkey_t _ T hL hgb).mono ?_
  clear T
  rintro e w3 ⟨s,rfl,hsz,T,k2⟩
  have own3:=own2.nxb hbw k2
  replace kk:=kk.nxb k2
  clear own2 k2 hL
  go_wp2_with fail
  refine (pick_t (n:=2) (0) 65536 [0,65536] T rfl rfl rfl (by omega) (by omega) (by intro x hx;simp at hx;omega)).mono ?_
  clear T
  rintro e w4 ⟨m,rfl,m0,m1,T,k2⟩
  obtain ⟨m,rfl⟩:=Int.eq_ofNat_of_zero_le m0
  have hmw:IntKind.u32.wrap (m:Int)=(m:Int):=by rw [wrap_u32n];omega
  have own4:=own3.nxb hbw k2
  replace kk:=kk.nxb k2
  have z4:=kk.size
  clear own3 k2
  go_wp2_with (at_builtin;(refine wpList_append_lit (enc:=encN) w4 rfl _ _ 23 rfl w.heap.size 49 (.agg #[.int .i64 0,.string ByteArray.empty,.int .u32 0]) 3 32 Tryz.underlying23 Tryz.infoN rfl (by omega) (by omega) _ _ own4 rfl (⟨r,s,m⟩:Nd) _ rfl rfl (by simp [encN,Value.oneCell']) _ (by simp) rfl (by omega) (by omega) _ ?_);intro v9 w9 own9 ch0 ch1 _)
  go_ret
  exact ⟨v9,_,rfl,⟨own9,by simp,by simp,ok_snoc OK.out ⟨⟨by show _≤r;omega,by show r≤_;omega⟩,by show m<_;omega,hsz⟩,TP.chg T ch1 (fun x hx=>by omega),Chg.trans kk (ch1.mono (fun x hx=>hx.1))⟩⟩
 ·have d0:((l.length:Int)==0)=false:=beq_eq_false_iff_ne.2 (by omega)
  obtain ⟨g,rfl,hg⟩:=some1 (fun h0=>hn0 (by rw [h0];rfl))
  have hlp:0<l.length:=by omega
  have hgb':¬ g=b:=by omega
  have HN0:=lH hn0
  clear some1 hn0
  go_wp2_with fail
  refine (next_t (l.length:Int) _ h (by omega) (by omega)).mono ?_
  clear h
  rintro e w2 ⟨j,rfl,j0,j1,T,k2⟩
  obtain ⟨j,rfl⟩:=Int.eq_ofNat_of_zero_le j0
  have hjl:j<l.length:=by omega
  have hjl':(j:Int)<(l.length:Int):=by omega
  have own2:=own1.nxb hbw k2
  replace kk:=kk.nxb k2
  replace hL:=hL.nxb hgb k2
  obtain ⟨y,hy⟩:∃ y,l[j]?=some y:=⟨l[j],by simp⟩
  have hyok:=lH (OK.out y (List.mem_of_getElem? hy))
  have HY:=lH hy
  clear own1 k2 hy
  go_wp2_with fail
  refine (next_t 6 _ T (by omega) (by omega)).mono ?_
  clear T
  rintro e w3 ⟨r,rfl,r0,r1,T,k2⟩
  have own3:=own2.nxb hbw k2
  replace kk:=kk.nxb k2
  replace hL:=hL.nxb hgb k2
  clear own2 k2
  have hr:r=0∨r=1∨r=2∨r=3∨r=4∨r=5:=by omega
  clear r0 r1
  rcases hr with rfl | rfl | rfl | rfl | rfl | rfl
  ·go_wp2_with fail
   refine (pick_t (n:=5) (-9223372036854775808) 2147483648 [0,-1,2147483648,2147483647,-9223372036854775808] T rfl rfl rfl (by omega) (by omega) (by intro x hx;simp at hx;omega)).mono ?_
   clear T hL
   rintro e w4 ⟨m,rfl,m0,m1,T,k2⟩
   have own4:=own3.nxb hbw k2
   replace kk:=kk.nxb k2
   obtain ⟨q0,f0,OS⟩:=own_set1 (sz:=3) (enc:=encN) (c:=0) (fun _=>rfl) own4 HY.out (by omega)
   have q0:w4.cell? ⟨g,j*3,none⟩=some (.int .i64 y.id):=q0
   have f0:w4.frozen? ⟨g,j*3,none⟩=false:=f0
   have OS:=lH (OS ⟨m,y.key,y.word⟩ (.int .i64 m) rfl)
   clear own3 own4 k2
   go_wp2_with fail
   go_ret
   exact ⟨_,_,rfl,⟨OS.out,by simp,by rw [List.length_set];omega,ok_set OK.out j ⟨⟨by show _≤m;omega,by show m≤_;omega⟩,hyok.out.2.1,hyok.out.2.2⟩,T.set _ (by show b<g;omega),kk.setNew _ hg⟩⟩
  ·go_wp2_with fail
   refine (oddkey_t _ T hL hgb).mono ?_
   clear T hL
   rintro e w4 ⟨s,rfl,hsz,T,k2⟩
   have own4:=own3.nxb hbw k2
   replace kk:=kk.nxb k2
   obtain ⟨q0,f0,OS⟩:=own_set1 (sz:=3) (enc:=encN) (c:=1) (fun _=>rfl) own4 HY.out (by omega)
   have q0:w4.cell? ⟨g,j*3+1,none⟩=some (.string y.key):=q0
   have OS:=lH (OS ⟨y.id,s,y.word⟩ (.string s) rfl)
   clear own3 own4 k2
   go_wp2_with fail
   go_ret
   exact ⟨_,_,rfl,⟨OS.out,by simp,by rw [List.length_set];omega,ok_set OK.out j ⟨hyok.out.1,hyok.out.2.1,hsz⟩,T.set _ (by show b<g;omega),kk.setNew _ hg⟩⟩
  ·go_wp2_with fail
   refine (pick_t (n:=3) (0) 4294967295 [65536,4294967295,5] T rfl rfl rfl (by omega) (by omega) (by intro x hx;simp at hx;omega)).mono ?_
   clear T hL
   rintro e w4 ⟨m,rfl,m0,m1,T,k2⟩
   obtain ⟨m,rfl⟩:=Int.eq_ofNat_of_zero_le m0
   have hmw:IntKind.u32.wrap (m:Int)=(m:Int):=by rw [wrap_u32n];omega
   have own4:=own3.nxb hbw k2
   replace kk:=kk.nxb k2
   obtain ⟨q0,f0,OS⟩:=own_set1 (sz:=3) (enc:=encN) (c:=2) (fun _=>rfl) own4 HY.out (by omega)
   have q0:w4.cell? ⟨g,j*3+2,none⟩=some (.int .u32 y.word):=q0
   have OS:=lH (OS ⟨y.id,y.key,m⟩ (.int .u32 m) rfl)
   clear own3 own4 k2
   go_wp2_with fail
   go_ret
   exact ⟨_,_,rfl,⟨OS.out,by simp,by rw [List.length_set];omega,ok_set OK.out j ⟨hyok.out.1,by show m<_;omega,hyok.out.2.2⟩,T.set _ (by show b<g;omega),kk.setNew _ hg⟩⟩
  ·have e0:w3.cell? ⟨g,j*3,none⟩=some (.int .i64 y.id):=(own_set1 (sz:=3) (enc:=encN) (c:=0) (fun _=>rfl) own3 HY.out (by omega)).1
   have e1:w3.cell? ⟨g,j*3+1,none⟩=some (.string y.key):=(own_set1 (sz:=3) (enc:=encN) (c:=1) (fun _=>rfl) own3 HY.out (by omega)).1
   have e2:w3.cell? ⟨g,j*3+1+1,none⟩=some (.int .u32 y.word):=(own_set1 (sz:=3) (enc:=encN) (c:=2) (fun _=>rfl) own3 HY.out (by omega)).1
   have z4:=kk.size
   clear hL
   go_wp2_with (at_builtin;(refine wpList_append_lit (enc:=encN) w3 rfl _ _ 23 rfl w.heap.size 49 (.agg #[.int .i64 0,.string ByteArray.empty,.int .u32 0]) 3 32 Tryz.underlying23 Tryz.infoN rfl (by omega) (by omega) _ _ own3 rfl y _ rfl rfl (by simp [encN,Value.oneCell']) _ (by simp) rfl (by omega) (by omega) _ ?_);intro v9 w9 own9 ch0 ch1 _)
   go_ret
   exact ⟨v9,_,rfl,⟨own9,by simp,by simp,ok_snoc OK.out hyok.out,TP.chg T ch1 (fun x hx=>by omega),Chg.trans kk (ch1.mono (fun x hx=>hx.1))⟩⟩
  ·clear hL
   go_wp2_with fail
   have own4:OwnL 3 encN 49 w.heap.size w3.drew (.slice (some ⟨g,0,none⟩) l.length c1) l:=own3.nxb hbw (Exb.refl b w3).drew
   have T:TK w3.drew b:=T
   have kk:=kk.drew
   clear own3
   refine wp_region_held_drew (S:=fun _=>True) (by kernel_rfl) (trivial) (fun hHeld=>?_)
   refine tkH 0 (v:=?_) rfl (by kernel_rfl) (fun _ _ _ h=>h) (by rfl) ?y1 hHeld ?_
   case y1=>intro wq hSw;go_simp<;>rfl
   refine tkH 1 (v:=?_) rfl (by kernel_rfl) (fun _ _ _ h=>h) (by rfl) ?y4 hHeld ?_
   case y4=>intro wq hSw;go_simp<;>rfl
   refine tkH 4 (v:=?_) rfl (by kernel_rfl) (fun _ _ _ h=>h) (by rfl) ?y7 hHeld ?_
   case y7=>intro wq hSw;go_simp<;>rfl
   refine tkH 5 (v:=?_) rfl (by kernel_rfl) (fun _ _ _ h=>h) (by rfl) ?y10 hHeld ?_
   case y10=>intro wq hSw;go_simp<;>rfl
   refine tkH 6 (v:=?_) rfl (by kernel_rfl) (fun _ _ _ h=>h) (by rfl) ?y13 hHeld ?_
   case y13=>intro wq hSw;go_simp<;>rfl
   refine wpAnyH_ready (rs:=[2,7]) (by kernel_rfl) (by simp) ?_
   refine AllReadyH.cons (o:=⟨_,_,_,_,_,_⟩) rfl (fun K hK=>?_) ?_
   ·go_simp
    (refine (next_t 50 _ T (by omega) (by omega)).mono ?_)
    clear T
    rintro e w5 ⟨m,rfl,m0,m1,T,k2⟩
    have mw:IntKind.i64.wrap (1+m)=1+m:=IntWalk.i64_in _ (by omega)
    replace own4:=own4.nxb hbw k2
    replace kk:=kk.nxb k2
    clear k2
    refine hK.out _ _ (trivial) (fun hHeld=>?_)
    clear hK K
    refine tkH 3 (v:=?_) rfl (by kernel_rfl) (fun _ _ _ h=>h) (by rfl) ?y29 hHeld ?_
    case y29=>intro wq hSw;go_simp<;>rfl
    refine rH 7 (by kernel_rfl) rfl fun K hK=>?_
    have e1:World.cell? _ ⟨g,j*3+1,none⟩=some (.string y.key):=(own_set1 (sz:=3) (enc:=encN) (c:=1) (fun _=>rfl) own4 HY.out (by omega)).1
    go_simp
    clear e1
    refine hK.out _ _ (trivial) (fun hHeld=>?_)
    clear hK K
    refine tkH 8 (v:=?_) rfl (by kernel_rfl) (fun _ _ _ h=>h) (by rfl) ?y40 hHeld ?_
    case y40=>intro wq hSw;go_simp<;>rfl
    refine rH 9 (by kernel_rfl) rfl fun K hK=>?_
    have z5:=kk.size
    have SX:Sl 3 encN (w5.alloc (.cells #[.int .i64 (1+m),.string y.key,.int .u32 0] 49)) (some ⟨w5.heap.size,0,none⟩) 1 [(⟨1+m,y.key,0⟩:Nd)]:=Sl.lit _ rfl rfl (fun _=>rfl) rfl
    go_simp
    have k6:=Ex.new w5 (.cells #[.int .i64 (1+m),.string y.key,.int .u32 0] 49)
    replace own4:=own4.nx k6
    replace kk:=kk.nxb (k6.b b)
    replace T:=T.nx k6
    clear k6
    refine hK.out _ _ (trivial) (fun hHeld=>?_)
    clear hK K
    refine rH 10 (by kernel_rfl) rfl fun K hK=>?_
    rw [if_pos (by rfl)]
    have z6:=kk.size
    refine wp_append_rd (enc:=encN) _ (.tmp 76) (.tmp 85) 23 rfl w.heap.size 49 (.agg #[.int .i64 0,.string ByteArray.empty,.int .u32 0]) 3 32 Tryz.underlying23 Tryz.infoN rfl (by omega) (by omega) _ l own4 rfl _ _ 1 1 [_] SX (fun h=>by cases h) (fun _=>rfl) (by simp [encN,Value.oneCell']) rfl (by omega) (by omega) z6 ?_
    intro v9 w9 own9 ch0 ch1
    refine hK.out _ _ (trivial) (fun hHeld=>?_)
    clear hK K
    refine tkH 11 (v:=?_) rfl (by kernel_rfl) (fun _ _ _ h=>h) (by rfl) ?y65 hHeld ?_
    case y65=>intro wq hSw;go_simp<;>rfl
    refine wpAnyH_done (by kernel_rfl) ?_ _
    go_wp2_with fail
    go_ret
    exact ⟨v9,_,rfl,⟨own9,by simp,by simp,ok_snoc OK.out ⟨⟨by show _≤1+m;omega,by show 1+m≤_;omega⟩,by show 0<_;omega,hyok.out.2.2⟩,TP.chg T ch1 (fun x hx=>by omega),Chg.trans kk (ch1.mono (fun x hx=>hx.1))⟩⟩
   refine AllReadyH.cons (o:=⟨_,_,_,_,_,_⟩) rfl (fun K hK=>?_) AllReadyH.nil
   ·have e1:World.cell? _ ⟨g,j*3+1,none⟩=some (.string y.key):=(own_set1 (sz:=3) (enc:=encN) (c:=1) (fun _=>rfl) own4 HY.out (by omega)).1
    go_simp
    clear e1
    refine hK.out _ _ (trivial) (fun hHeld=>?_)
    clear hK K
    refine rH 2 (by kernel_rfl) rfl fun K hK=>?_
    go_simp
    (refine (next_t 50 _ T (by omega) (by omega)).mono ?_)
    clear T
    rintro e w5 ⟨m,rfl,m0,m1,T,k2⟩
    have mw:IntKind.i64.wrap (1+m)=1+m:=IntWalk.i64_in _ (by omega)
    replace own4:=own4.nxb hbw k2
    replace kk:=kk.nxb k2
    clear k2
    refine hK.out _ _ (trivial) (fun hHeld=>?_)
    clear hK K
    refine tkH 3 (v:=?_) rfl (by kernel_rfl) (fun _ _ _ h=>h) (by rfl) ?y90 hHeld ?_
    case y90=>intro wq hSw;go_simp<;>rfl
    refine tkH 8 (v:=?_) rfl (by kernel_rfl) (fun _ _ _ h=>h) (by rfl) ?y93 hHeld ?_
    case y93=>intro wq hSw;go_simp<;>rfl
    refine rH 9 (by kernel_rfl) rfl fun K hK=>?_
    have z5:=kk.size
    have SX:Sl 3 encN (w5.alloc (.cells #[.int .i64 (1+m),.string y.key,.int .u32 0] 49)) (some ⟨w5.heap.size,0,none⟩) 1 [(⟨1+m,y.key,0⟩:Nd)]:=Sl.lit _ rfl rfl (fun _=>rfl) rfl
    go_simp
    have k6:=Ex.new w5 (.cells #[.int .i64 (1+m),.string y.key,.int .u32 0] 49)
    replace own4:=own4.nx k6
    replace kk:=kk.nxb (k6.b b)
    replace T:=T.nx k6
    clear k6
    refine hK.out _ _ (trivial) (fun hHeld=>?_)
    clear hK K
    refine rH 10 (by kernel_rfl) rfl fun K hK=>?_
    rw [if_pos (by rfl)]
    have z6:=kk.size
    refine wp_append_rd (enc:=encN) _ (.tmp 76) (.tmp 85) 23 rfl w.heap.size 49 (.agg #[.int .i64 0,.string ByteArray.empty,.int .u32 0]) 3 32 Tryz.underlying23 Tryz.infoN rfl (by omega) (by omega) _ l own4 rfl _ _ 1 1 [_] SX (fun h=>by cases h) (fun _=>rfl) (by simp [encN,Value.oneCell']) rfl (by omega) (by omega) z6 ?_
    intro v9 w9 own9 ch0 ch1
    refine hK.out _ _ (trivial) (fun hHeld=>?_)
    clear hK K
    refine tkH 11 (v:=?_) rfl (by kernel_rfl) (fun _ _ _ h=>h) (by rfl) ?y118 hHeld ?_
    case y118=>intro wq hSw;go_simp<;>rfl
    refine wpAnyH_done (by kernel_rfl) ?_ _
    go_wp2_with fail
    go_ret
    exact ⟨v9,_,rfl,⟨own9,by simp,by simp,ok_snoc OK.out ⟨⟨by show _≤1+m;omega,by show 1+m≤_;omega⟩,by show 0<_;omega,hyok.out.2.2⟩,TP.chg T ch1 (fun x hx=>by omega),Chg.trans kk (ch1.mono (fun x hx=>hx.1))⟩⟩
  ·go_wp2_with fail
   have own4:OwnL 3 encN 49 w.heap.size w3.drew (.slice (some ⟨g,0,none⟩) l.length c1) l:=own3.nxb hbw (Exb.refl b w3).drew
   have T:TK w3.drew b:=T
   have kk:=kk.drew
   have hL:=hL.nxb hgb (Exb.refl b w3).drew
   clear own3
   refine wp_region_held_drew (S:=fun _=>True) (by kernel_rfl) (trivial) (fun hHeld=>?_)
   refine tkH 0 (v:=?_) rfl (by kernel_rfl) (fun _ _ _ h=>h) (by rfl) ?y1 hHeld ?_
   case y1=>intro wq hSw;go_simp<;>rfl
   refine tkH 1 (v:=?_) rfl (by kernel_rfl) (fun _ _ _ h=>h) (by rfl) ?y4 hHeld ?_
   case y4=>intro wq hSw;go_simp<;>rfl
   refine tkH 2 (v:=?_) rfl (by kernel_rfl) (fun _ _ _ h=>h) (by rfl) ?y7 hHeld ?_
   case y7=>intro wq hSw;go_simp<;>rfl
   refine tkH 3 (v:=?_) rfl (by kernel_rfl) (fun _ _ _ h=>h) (by rfl) ?y10 hHeld ?_
   case y10=>intro wq hSw;go_simp<;>rfl
   refine tkH 5 (v:=?_) rfl (by kernel_rfl) (fun _ _ _ h=>h) (by rfl) ?y13 hHeld ?_
   case y13=>intro wq hSw;go_simp<;>rfl
   refine wpAnyH_ready (rs:=[4,6]) (by kernel_rfl) (by simp) ?_
   refine AllReadyH.cons (o:=⟨_,_,_,_,_,_⟩) rfl (fun K hK=>?_) ?_
   ·have e1:World.cell? _ ⟨g,j*3,none⟩=some (.int .i64 y.id):=(own_set1 (sz:=3) (enc:=encN) (c:=0) (fun _=>rfl) own4 HY.out (by omega)).1
    go_simp
    clear e1
    refine hK.out _ _ (trivial) (fun hHeld=>?_)
    clear hK K
    refine rH 6 (by kernel_rfl) rfl fun K hK=>?_
    go_simp
    (refine (key_t _ T hL hgb).mono ?_)
    clear T hL
    rintro e w5 ⟨s,rfl,hsz,T,k2⟩
    replace own4:=own4.nxb hbw k2
    replace kk:=kk.nxb k2
    clear k2
    refine hK.out _ _ (trivial) (fun hHeld=>?_)
    clear hK K
    refine tkH 7 (v:=?_) rfl (by kernel_rfl) (fun _ _ _ h=>h) (by rfl) ?y36 hHeld ?_
    case y36=>intro wq hSw;go_simp<;>rfl
    refine rH 8 (by kernel_rfl) rfl fun K hK=>?_
    have z5:=kk.size
    have SX:Sl 3 encN (w5.alloc (.cells #[.int .i64 y.id,.string s,.int .u32 0] 49)) (some ⟨w5.heap.size,0,none⟩) 1 [(⟨y.id,s,0⟩:Nd)]:=Sl.lit _ rfl rfl (fun _=>rfl) rfl
    go_simp
    have k6:=Ex.new w5 (.cells #[.int .i64 y.id,.string s,.int .u32 0] 49)
    replace own4:=own4.nx k6
    replace kk:=kk.nxb (k6.b b)
    replace T:=T.nx k6
    clear k6
    refine hK.out _ _ (trivial) (fun hHeld=>?_)
    clear hK K
    refine rH 9 (by kernel_rfl) rfl fun K hK=>?_
    rw [if_pos (by rfl)]
    have z6:=kk.size
    refine wp_append_rd (enc:=encN) _ (.tmp 32) (.tmp 40) 23 rfl w.heap.size 49 (.agg #[.int .i64 0,.string ByteArray.empty,.int .u32 0]) 3 32 Tryz.underlying23 Tryz.infoN rfl (by omega) (by omega) _ l own4 rfl _ _ 1 1 [_] SX (fun h=>by cases h) (fun _=>rfl) (by simp [encN,Value.oneCell']) rfl (by omega) (by omega) z6 ?_
    intro v9 w9 own9 ch0 ch1
    refine hK.out _ _ (trivial) (fun hHeld=>?_)
    clear hK K
    refine tkH 10 (v:=?_) rfl (by kernel_rfl) (fun _ _ _ h=>h) (by rfl) ?y61 hHeld ?_
    case y61=>intro wq hSw;go_simp<;>rfl
    refine wpAnyH_done (by kernel_rfl) ?_ _
    go_wp2_with fail
    go_ret
    exact ⟨v9,_,rfl,⟨own9,by simp,by simp,ok_snoc OK.out ⟨hyok.out.1,by show 0<_;omega,by show s.size≤_;omega⟩,TP.chg T ch1 (fun x hx=>by omega),Chg.trans kk (ch1.mono (fun x hx=>hx.1))⟩⟩
   refine AllReadyH.cons (o:=⟨_,_,_,_,_,_⟩) rfl (fun K hK=>?_) AllReadyH.nil
   ·go_simp
    (refine (key_t _ T hL hgb).mono ?_)
    clear T hL
    rintro e w5 ⟨s,rfl,hsz,T,k2⟩
    replace own4:=own4.nxb hbw k2
    replace kk:=kk.nxb k2
    clear k2
    refine hK.out _ _ (trivial) (fun hHeld=>?_)
    clear hK K
    refine rH 4 (by kernel_rfl) rfl fun K hK=>?_
    have e1:World.cell? _ ⟨g,j*3,none⟩=some (.int .i64 y.id):=(own_set1 (sz:=3) (enc:=encN) (c:=0) (fun _=>rfl) own4 HY.out (by omega)).1
    go_simp
    clear e1
    refine hK.out _ _ (trivial) (fun hHeld=>?_)
    clear hK K
    refine tkH 7 (v:=?_) rfl (by kernel_rfl) (fun _ _ _ h=>h) (by rfl) ?y85 hHeld ?_
    case y85=>intro wq hSw;go_simp<;>rfl
    refine rH 8 (by kernel_rfl) rfl fun K hK=>?_
    have z5:=kk.size
    have SX:Sl 3 encN (w5.alloc (.cells #[.int .i64 y.id,.string s,.int .u32 0] 49)) (some ⟨w5.heap.size,0,none⟩) 1 [(⟨y.id,s,0⟩:Nd)]:=Sl.lit _ rfl rfl (fun _=>rfl) rfl
    go_simp
    have k6:=Ex.new w5 (.cells #[.int .i64 y.id,.string s,.int .u32 0] 49)
    replace own4:=own4.nx k6
    replace kk:=kk.nxb (k6.b b)
    replace T:=T.nx k6
    clear k6
    refine hK.out _ _ (trivial) (fun hHeld=>?_)
    clear hK K
    refine rH 9 (by kernel_rfl) rfl fun K hK=>?_
    rw [if_pos (by rfl)]
    have z6:=kk.size
    refine wp_append_rd (enc:=encN) _ (.tmp 32) (.tmp 40) 23 rfl w.heap.size 49 (.agg #[.int .i64 0,.string ByteArray.empty,.int .u32 0]) 3 32 Tryz.underlying23 Tryz.infoN rfl (by omega) (by omega) _ l own4 rfl _ _ 1 1 [_] SX (fun h=>by cases h) (fun _=>rfl) (by simp [encN,Value.oneCell']) rfl (by omega) (by omega) z6 ?_
    intro v9 w9 own9 ch0 ch1
    refine hK.out _ _ (trivial) (fun hHeld=>?_)
    clear hK K
    refine tkH 10 (v:=?_) rfl (by kernel_rfl) (fun _ _ _ h=>h) (by rfl) ?y110 hHeld ?_
    case y110=>intro wq hSw;go_simp<;>rfl
    refine wpAnyH_done (by kernel_rfl) ?_ _
    go_wp2_with fail
    go_ret
    exact ⟨v9,_,rfl,⟨own9,by simp,by simp,ok_snoc OK.out ⟨hyok.out.1,by show 0<_;omega,by show s.size≤_;omega⟩,TP.chg T ch1 (fun x hx=>by omega),Chg.trans kk (ch1.mono (fun x hx=>hx.1))⟩⟩
end Go.Proofs.YtalmjklljofhbaaGreatDoor
