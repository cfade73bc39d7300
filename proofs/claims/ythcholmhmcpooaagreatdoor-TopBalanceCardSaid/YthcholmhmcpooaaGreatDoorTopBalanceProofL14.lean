/- Texts for TopBalanceProof. -/
import Derived.Test.YthcholmhmcpooaaGreatDoorTopBalanceProofL5
set_option linter.unusedSimpArgs false
set_option linter.unusedVariables false

namespace Go.Proofs.YthcholmhmcpooaaGreatDoor
open Go.RowKit
theorem word_t {b:Nat} (w:World) (h:TK w b):Calls Tryz.prog 61 #[.pointer (some ⟨b,0,none⟩)] w fun e w'=>∃ m:Nat,e=.returned (.int .u32 m)∧m<65536∧TK w' b∧Exb b w w' :=
 (word_x w h h.lt).mono fun e w' ⟨m,he,hm,k,t⟩=>⟨m,he,hm,t,k⟩
structure RosterOf (n b:Nat) (w w':World) (v:Value) (L:List Nd):Prop where
 own:OwnL 3 encN 36 w.heap.size w' v L
 len:L.length≤n
 ok:checkN L=0
 word:∀ x∈L,x.word<65536
 tape:TK w' b
 k:Exb b w w'
def RosRel (n b:Nat) (w:World) (o i:Value) (wr:World):Prop:=∃ (k:Nat) (L:List Nd),L.length+k≤n∧i=.int .i64 k∧RosterOf n b w wr o L
set_option maxRecDepth 100000 in
set_option maxHeartbeats 2000000 in
theorem roster_t {b:Nat} (n:Nat) (w:World) (h:TK w b) (hL:LetG w) (hgb:¬ 0=b) (hn0:1≤n) (hn:n≤60) :
  Calls Tryz.prog 60 #[.pointer (some ⟨b,0,none⟩),.int .i64 n] w fun e w'=>∃ v L,e=.returned v∧RosterOf n b w w' v L:=by
 have hbw:=h.lt
 go_enter Tryz.func60,Tryz.ntmps60
 go_wp2_with fail
 refine (next_t ((n:Int)+1) _ h (by omega) (by omega)).mono ?_
 clear h
 rintro e w1 ⟨k,rfl,k0,k1,T,kk⟩
 obtain ⟨k,rfl⟩:=Int.eq_ofNat_of_zero_le k0
 go_wp2_with fail
 go_loopw [5,6] (fun o i wr=>RosRel n b w o i wr) (fun _ i _=>(intOf i).toNat)
 case atStart=>exact ⟨k,[],by simp;omega,rfl,OwnL.nil _ _ _ _ _,by simp,by decide,by simp,T,kk⟩
 case round =>
  clear T kk
  obtain ⟨q,L,hq,rfl,R⟩:=hrel
  obtain ⟨wo,rfl⟩:∃ wo:World,wo=wr:=⟨_,rfl⟩
  have T:=R.tape
  by_cases hq0:0<q
  ·have L1:=hL.nxb hgb R.k
   clear hL
   have R:=lH R
   go_wp2_with fail
   refine (next_t (3*(n:Int)) _ T (by omega) (by omega)).mono ?_
   clear T
   rintro e w2 ⟨d,rfl,d0,d1,T,k2⟩
   have L2:=L1.nxb hgb k2
   clear L1
   go_wp2_with fail
   refine (key_t _ T L2 hgb).mono ?_
   clear T
   rintro e w3 ⟨s,rfl,hs,T,k3⟩
   replace k2:=k2.nxb k3
   clear L2 k3
   go_wp2_with fail
   refine (word_t _ T).mono ?_
   clear T
   rintro e w4 ⟨m,rfl,hm,T,k4⟩
   replace k2:=k2.nxb k4
   clear k4
   have B4:=Blk.new w4 [.int .i64 (1+d),.string s,.int .u32 m] 36
   have e4:=Ex.new w4 (.cells #[.int .i64 (1+d),.string s,.int .u32 m] 36)
   obtain ⟨w5,hw5⟩:∃ w5,w5=w4.alloc (.cells #[.int .i64 (1+d),.string s,.int .u32 m] 36):=⟨_,rfl⟩
   obtain ⟨g,hg⟩:∃ g,g=w4.heap.size:=⟨_,rfl⟩
   have B4:Blk w5 g [.int .i64 (1+d),.string s,.int .u32 m] 36:=by rw [hw5,hg];exact B4
   rw [← hw5] at e4
   replace T:=T.nx e4
   replace k2:=k2.nxb (e4.b b)
   have HW:=lH hw5
   have HG:=lH hg
   clear hw5 hg e4
   go_wp2_with fail
   rw [← HG.out,← HW.out]
   have own5:=R.out.own.nxb hbw k2
   obtain ⟨A5,C5,rfl,s5,o5,m5,nil5⟩:=own5.slf (fun _=>rfl)
   have lenL:L.length≤60:=by omega
   have NIL:=lH nil5
   have O5:=lH own5
   have S5:Sl 3 encN w5 A5 L.length L:=s5.sl
   clear s5 nil5 own5
   obtain ⟨X,hX⟩:∃ X:Nd,X=⟨1+d,s,m⟩:=⟨_,rfl⟩
   have SXF:∀ cur,Ex w5 cur→Sl 3 encN (cur.alloc (.cells #[.int .i64 (1+d),.string s,.int .u32 m] 36)) (some ⟨cur.heap.size,0,none⟩) 1 [X]:=fun cur _=>by rw [hX];exact Sl.lit _ rfl rfl (fun _=>rfl) rfl
   have OWN0:∀ cur,Ex w5 cur→OwnL 3 encN 36 w5.heap.size cur (.slice none 0 0) []:=fun _ _=>OwnL.nil _ _ _ _ _
   have HX:=lH hX
   have S5F:=fun cur (h:Ex w5 cur)=>S5.nx h
   have hX3:m<65536:=hm
   clear hX S5 hm d0 d1 hs
   refine wp_region_held_drew (S:=Ex w5) (by kernel_rfl) ((Ex.refl w5).drew) (fun hHeld=>?_)
   refine tkH 0 (v:=?_) rfl (by kernel_rfl) (fun _ _ _ h=>h) (by rfl) ?y1 hHeld ?_
   case y1=>intro wq hSw;go_simp<;>rfl
   refine tkH 2 (v:=?_) rfl (by kernel_rfl) (fun _ _ _ h=>h) (by rfl) ?y4 hHeld ?_
   case y4=>intro wq hSw;(have cq:=(B4.nx hSw).cell 0 _ rfl;have cq1:=(B4.nx hSw).cell 1 _ rfl;have cq2:=(B4.nx hSw).cell 2 _ rfl;go_simp)<;>rfl
   refine wpAnyH_ready (rs:=[1,3]) (by kernel_rfl) (by simp) ?_
   refine AllReadyH.cons (o:=⟨_,_,_,_,_,_⟩) rfl (fun K hK=>?_) ?_
   ·rw [if_pos (by rfl)]
    have own0:=OWN0 _ hHeld
    have s0:=S5F _ hHeld
    have z0:=Ex.size hHeld
    refine wp_append_rd (enc:=encN) _ (.const (.slice none 0 0)) (.tmp 26) 25 rfl w5.heap.size 36 (.agg #[.int .i64 0,.string ByteArray.empty,.int .u32 0]) 3 32 Tryz.underlying25 Tryz.infoN rfl (by omega) (by omega) _ [] own0 rfl _ A5 L.length C5 L s0 NIL.out (fun _=>rfl) (by simp [encN,Value.oneCell']) rfl (by simp) (by omega) z0 ?_
    intro v6 w6 own6 ch0 ch1
    have j6:Ex w5 w6:=Chg.trans hHeld ch1
    (try replace SX:=SX.nx (Chg.mono ch0 (fun k hk=>⟨hk,by simp [Value.ownBlock]⟩)))
    clear own0 s0 z0 ch0 ch1
    refine hK.out _ _ (j6) (fun hHeld=>?_)
    clear hK K
    refine rH 3 (by kernel_rfl) rfl fun K hK=>?_
    go_simp
    have SX:=SXF _ hHeld
    have j6:=hHeld.alloc (.cells #[.int .i64 (1+d),.string s,.int .u32 m] 36)
    (try replace own6:=own6.alloc (.cells #[.int .i64 (1+d),.string s,.int .u32 m] 36))
    refine hK.out _ _ (j6) (fun hHeld=>?_)
    clear hK K
    refine rH 4 (by kernel_rfl) rfl fun K hK=>?_
    rw [if_pos (by rfl)]
    have z0:=Ex.size hHeld
    refine wp_append_rd (enc:=encN) _ (.tmp 27) (.tmp 29) 25 rfl w5.heap.size 36 (.agg #[.int .i64 0,.string ByteArray.empty,.int .u32 0]) 3 32 Tryz.underlying25 Tryz.infoN rfl (by omega) (by omega) _ ([]++L) own6 rfl _ _ 1 1 [X] SX (fun h=>by cases h) (fun _=>rfl) (by simp [encN,Value.oneCell']) rfl (by rw [List.nil_append];omega) (by omega) z0 ?_
    intro v7 w7 own7 ch0 ch1
    have j7:Ex w5 w7:=Chg.trans hHeld ch1
    rw [List.nil_append] at own7
    obtain ⟨L7,h7⟩:∃ L7,L7=L++[X]:=⟨_,rfl⟩
    rw [← h7] at own7
    have l7:L7.length≤61:=by rw [h7,List.length_append,List.length_singleton];omega
    have H7:=lH h7
    clear h7
    obtain ⟨A7,C7,rfl,s7,_,_,_⟩:=own7.slf (fun _=>rfl)
    have s7:=s7.sl
    clear own7 own6 SX z0 ch0 ch1
    refine hK.out _ _ (j7) (fun hHeld=>?_)
    clear hK K
    refine rH 5 (by kernel_rfl) rfl fun K hK=>?_
    go_simp
    (with_reducible refine (is_r _ _ _ _ _ s7 (by omega)).mono ?_)
    rintro e w8 ⟨rfl,kk⟩
    have j8:=hHeld.nx kk
    clear kk s7
    refine hK.out _ _ (j8) (fun hHeld=>?_)
    clear hK K
    refine wpAnyH_done (by kernel_rfl) ?_ _
    replace T:=T.nx hHeld
    have own8:=O5.out.nx hHeld
    have B8:=B4.nx hHeld
    have k8:=k2.nxb (hHeld.b b)
    have c0:=B8.cell 0 _ rfl
    have c1:=B8.cell 1 _ rfl
    have c2:=B8.cell 2 _ rfl
    have k9:=R.out.k.nxb k8
    have z8:=k9.size
    clear hHeld B8 B4 SXF OWN0 S5F j6 j7 j8 s7 k8 l7
    cases hc:(checkN L7==0) with
    | true =>
     have HCK:Hid (checkN (L++[X])=0):=lH (by rw [← H7.out];simpa using hc)
     clear hc
     go_wp2_with (at_builtin;(refine wpList_append_lit (enc:=encN) w8 rfl _ _ 25 rfl w.heap.size 36 (.agg #[.int .i64 0,.string ByteArray.empty,.int .u32 0]) 3 32 Tryz.underlying25 Tryz.infoN rfl (by omega) (by omega) _ _ own8 rfl X _ (by rw [HX.out];rfl) rfl (by simp [encN,Value.oneCell']) _ (by simp) rfl (by omega) (by omega) _ ?_);intro v9 w9 own9 _ ch1 _)
     refine ⟨⟨q-1,L++[X],by simp;omega,by rw [show ((q-1:Nat):Int)=(q:Int)-1 by omega],own9,by simp;omega,HCK.out,?_,TP.chg T ch1 (fun x hx=>by omega),Chg.trans k9 (ch1.mono (fun x hx=>hx.1))⟩,by simp [intOf];omega⟩
     intro x hx
     rcases List.mem_append.1 hx with hx | hx
     ·exact R.out.word x hx
     ·rw [List.mem_singleton.1 hx,HX.out];exact hX3
    | false =>
     clear hc
     go_wp2_with fail
     exact ⟨⟨q-1,L,by omega,by rw [show ((q-1:Nat):Int)=(q:Int)-1 by omega],own8,by omega,R.out.ok,R.out.word,T,k9⟩,by simp [intOf];omega⟩
   refine AllReadyH.cons (o:=⟨_,_,_,_,_,_⟩) rfl (fun K hK=>?_) AllReadyH.nil
   ·go_simp
    have SX:=SXF _ hHeld
    have j6:=hHeld.alloc (.cells #[.int .i64 (1+d),.string s,.int .u32 m] 36)
    (try replace own6:=own6.alloc (.cells #[.int .i64 (1+d),.string s,.int .u32 m] 36))
    refine hK.out _ _ (j6) (fun hHeld=>?_)
    clear hK K
    refine rH 1 (by kernel_rfl) rfl fun K hK=>?_
    rw [if_pos (by rfl)]
    have own0:=OWN0 _ hHeld
    have s0:=S5F _ hHeld
    have z0:=Ex.size hHeld
    refine wp_append_rd (enc:=encN) _ (.const (.slice none 0 0)) (.tmp 26) 25 rfl w5.heap.size 36 (.agg #[.int .i64 0,.string ByteArray.empty,.int .u32 0]) 3 32 Tryz.underlying25 Tryz.infoN rfl (by omega) (by omega) _ [] own0 rfl _ A5 L.length C5 L s0 NIL.out (fun _=>rfl) (by simp [encN,Value.oneCell']) rfl (by simp) (by omega) z0 ?_
    intro v6 w6 own6 ch0 ch1
    have j6:Ex w5 w6:=Chg.trans hHeld ch1
    (try replace SX:=SX.nx (Chg.mono ch0 (fun k hk=>⟨hk,by simp [Value.ownBlock]⟩)))
    clear own0 s0 z0 ch0 ch1
    refine hK.out _ _ (j6) (fun hHeld=>?_)
    clear hK K
    refine rH 4 (by kernel_rfl) rfl fun K hK=>?_
    rw [if_pos (by rfl)]
    have z0:=Ex.size hHeld
    refine wp_append_rd (enc:=encN) _ (.tmp 27) (.tmp 29) 25 rfl w5.heap.size 36 (.agg #[.int .i64 0,.string ByteArray.empty,.int .u32 0]) 3 32 Tryz.underlying25 Tryz.infoN rfl (by omega) (by omega) _ ([]++L) own6 rfl _ _ 1 1 [X] SX (fun h=>by cases h) (fun _=>rfl) (by simp [encN,Value.oneCell']) rfl (by rw [List.nil_append];omega) (by omega) z0 ?_
    intro v7 w7 own7 ch0 ch1
    have j7:Ex w5 w7:=Chg.trans hHeld ch1
    rw [List.nil_append] at own7
    obtain ⟨L7,h7⟩:∃ L7,L7=L++[X]:=⟨_,rfl⟩
    rw [← h7] at own7
    have l7:L7.length≤61:=by rw [h7,List.length_append,List.length_singleton];omega
    have H7:=lH h7
    clear h7
    obtain ⟨A7,C7,rfl,s7,_,_,_⟩:=own7.slf (fun _=>rfl)
    have s7:=s7.sl
    clear own7 own6 SX z0 ch0 ch1
    refine hK.out _ _ (j7) (fun hHeld=>?_)
    clear hK K
    refine rH 5 (by kernel_rfl) rfl fun K hK=>?_
    go_simp
    (with_reducible refine (is_r _ _ _ _ _ s7 (by omega)).mono ?_)
    rintro e w8 ⟨rfl,kk⟩
    have j8:=hHeld.nx kk
    clear kk s7
    refine hK.out _ _ (j8) (fun hHeld=>?_)
    clear hK K
    refine wpAnyH_done (by kernel_rfl) ?_ _
    replace T:=T.nx hHeld
    have own8:=O5.out.nx hHeld
    have B8:=B4.nx hHeld
    have k8:=k2.nxb (hHeld.b b)
    have c0:=B8.cell 0 _ rfl
    have c1:=B8.cell 1 _ rfl
    have c2:=B8.cell 2 _ rfl
    have k9:=R.out.k.nxb k8
    have z8:=k9.size
    clear hHeld B8 B4 SXF OWN0 S5F j6 j7 j8 s7 k8 l7
    cases hc:(checkN L7==0) with
    | true =>
     have HCK:Hid (checkN (L++[X])=0):=lH (by rw [← H7.out];simpa using hc)
     clear hc
     go_wp2_with (at_builtin;(refine wpList_append_lit (enc:=encN) w8 rfl _ _ 25 rfl w.heap.size 36 (.agg #[.int .i64 0,.string ByteArray.empty,.int .u32 0]) 3 32 Tryz.underlying25 Tryz.infoN rfl (by omega) (by omega) _ _ own8 rfl X _ (by rw [HX.out];rfl) rfl (by simp [encN,Value.oneCell']) _ (by simp) rfl (by omega) (by omega) _ ?_);intro v9 w9 own9 _ ch1 _)
     refine ⟨⟨q-1,L++[X],by simp;omega,by rw [show ((q-1:Nat):Int)=(q:Int)-1 by omega],own9,by simp;omega,HCK.out,?_,TP.chg T ch1 (fun x hx=>by omega),Chg.trans k9 (ch1.mono (fun x hx=>hx.1))⟩,by simp [intOf];omega⟩
     intro x hx
     rcases List.mem_append.1 hx with hx | hx
     ·exact R.out.word x hx
     ·rw [List.mem_singleton.1 hx,HX.out];exact hX3
    | false =>
     clear hc
     go_wp2_with fail
     exact ⟨⟨q-1,L,by omega,by rw [show ((q-1:Nat):Int)=(q:Int)-1 by omega],own8,by omega,R.out.ok,R.out.word,T,k9⟩,by simp [intOf];omega⟩
  ·clear hL T
   go_wp2_with fail
   go_ret
   exact ⟨_,L,rfl,R⟩
end Go.Proofs.YthcholmhmcpooaaGreatDoor
