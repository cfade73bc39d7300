/- Texts for TopBalanceProof. -/
import Derived.Test.YthcholmhmcpooaaGreatDoorTopBalanceProofL5
set_option linter.unusedSimpArgs false
set_option linter.unusedVariables false

namespace Go.Proofs.YthcholmhmcpooaaGreatDoor
open Go.RowKit
set_option maxHeartbeats 1000000 in
theorem group_p {S:Nat→Prop} (a:Option Addr) (n cap:Nat) (l:List Nd) (h:Int) (v:Nat) (w:World) (hr:Rd 3 encN S w a n l) (hS:∀ k,S k→k<w.heap.size) (hn:n≤1000)
  (hw:∀ x∈l,x.word<4294967296) (hv:v<4294967296) (hT:TabG w) :
  Calls Tryz.prog 126 #[.slice a n cap,.int .i64 h,.int .u32 v] w (NodesPost (groupN l h v) w):=by
 have hlen:=hr.1
 have hlt:=hT.lt
 have HT:=lH hT
 have HL:=lH hlen
 have HW:=lH hw
 clear hT hlen hw
 go_enter Tryz.func126,Tryz.ntmps126
 go_wp2
 go_loopw [7,12] (fun o i wr=>GroupRel l h v w o i wr) (fun _ i _=>n-(intOf i).toNat)
 case atStart=>exact ⟨0,by omega,rfl,OwnL.nil _ _ _ _ _,Chg.refl _ _⟩
 case round =>
  obtain ⟨k,hk,rfl,hown,hc⟩:=hrel
  obtain ⟨wo,rfl⟩:∃ wo:World,wo=wr:=⟨_,rfl⟩
  have hwo:=hr.chg hc hS
  have hsz:=hc.size
  have HT':=lH (HT.out.chg hc hlt)
  have hgl:=groupN_length (l.take k) h v
  rw [List.length_take] at hgl
  have hkl:=HL.out
  by_cases hlt':k<n
  ·obtain ⟨x,o,y,rfl,hx,hy,hcell⟩:=hwo.at hlt'
   have e0:wo.cell? ⟨x,o+k*3,none⟩=some (.int .i64 y.id):=hcell 0 _ rfl
   have e1:wo.cell? ⟨x,o+k*3+1,none⟩=some (.string y.key):=hcell 1 _ rfl
   have e2:wo.cell? ⟨x,o+k*3+1+1,none⟩=some (.int .u32 y.word):=by simpa [Nat.add_assoc] using hcell 2 _ rfl
   have hyw:=HW.out y (List.mem_of_getElem? hy)
   have Hy:=lH hy
   have hc1:=hc.alloc (.cells #[.int .i64 y.id,.string y.key,.int .u32 y.word] 36) (by intro k hk;omega)
   have hown1:=hown.alloc (.cells #[.int .i64 y.id,.string y.key,.int .u32 y.word] 36)
   have HT1:=lH (HT'.out.chg ((Chg.refl (· < wo.heap.size) wo).alloc (.cells #[.int .i64 y.id,.string y.key,.int .u32 y.word] 36) (by simp)) (by omega))
   clear hy hcell hr hwo hkl
   by_cases hs:sameN y.word v h=true
   ·go_wp2_with (first
     | (go_at_call 141;refine (same_p _ _ _ _ hyw hv HT1.out).mono ?_;rintro e w1 ⟨rfl,rfl⟩)
     | (at_builtin;go_loud (refine wpList_append_lit (enc:=encN) (wo.alloc (.cells #[.int .i64 y.id,.string y.key,.int .u32 y.word] 36)) rfl _ _ 25 rfl w.heap.size 36 (.agg #[.int .i64 0,.string ByteArray.empty,.int .u32 0]) 3 32 Tryz.underlying25 Tryz.infoN rfl (by omega) (by omega) _ _ hown1 rfl y _ rfl rfl (by simp [encN,Value.oneCell']) _ (by simp) rfl (by omega) (by simp;omega) _ ?_);intro v' w3 hown3 _ hch3 hz3))
    go_roundw
    case rel=>exact ⟨k+1,by have:=HL.out;omega,by go_num,by rw [groupN_snoc l h v k y Hy.out,if_pos hs];exact hown3,hc1.then hch3 (fun _ h=>h)⟩
    case measure=>simp [intOf];omega
   ·have hs:sameN y.word v h=false:=by simpa using hs
    go_wp2_with (go_at_call 141;refine (same_p _ _ _ _ hyw hv HT1.out).mono ?_;rintro e w1 ⟨rfl,rfl⟩)
    go_roundw
    case rel=>exact ⟨k+1,by have:=HL.out;omega,by go_num,by rw [groupN_snoc l h v k y Hy.out,if_neg (by simp [hs])];exact hown1,hc1⟩
    case measure=>simp [intOf];omega
  ·obtain rfl:k=n:=by omega
   rw [List.take_of_length_le (by omega)] at hown
   obtain ⟨a',cap',rfl,hrd,_⟩:=hown.rd (fun _=>rfl)
   clear hown hr hwo
   go_wp2
   go_ret
   exact ⟨a',_,cap',rfl,hrd,hc⟩
end Go.Proofs.YthcholmhmcpooaaGreatDoor
