/- Texts for TopBalanceProof. -/
import Derived.Test.YthcholmhmcpooaaGreatDoorTopBalanceProofL19
import Derived.Test.YthcholmhmcpooaaGreatDoorTopBalanceProofL21
set_option linter.unusedSimpArgs false
set_option linter.unusedVariables false

namespace Go.Proofs.YthcholmhmcpooaaGreatDoor
open Go.RowKit
theorem Tryz.infoI9:(Tryz.prog.info? 3).map (fun i=>(i.zero,i.size,i.bytes))=some (some (.int .i64 0),1,8):=by kernel_rfl
theorem Tryz.infoRw:(Tryz.prog.info? 199).map (fun i=>(i.zero,i.size,i.bytes))=some (some (.agg #[.string ByteArray.empty,.string ByteArray.empty]),2,32):=by kernel_rfl
theorem Tryz.infoHg:(Tryz.prog.info? 91).map (fun i=>(i.zero,i.size,i.bytes))=some (some (.agg #[.int .i64 0,.string ByteArray.empty,.int .u32 0,.slice none 0 0]),4,56):=by kernel_rfl
def encR (r:Rw):List Value:=[.string r.1,.string r.2]
def WfH (hd:Hdr):Prop:=hd.2.1≤hd.2.2∧hd.2.2≤maxLen∧(hd.1=none→hd.2.2=0)
def RowR (S:Nat→Prop) (w:World) (hd:Hdr) (l:List Rw):Prop:=Rd 2 encR S w hd.1 hd.2.1 l∧WfH hd
def HdS (S:Nat→Prop) (w:World) (hd:Hdr) (H:List Hg):Prop :=
 ∃ qs:List (Nd×Hdr),Rd 4 (encP encN) S w hd.1 hd.2.1 qs∧WfH hd∧H.length=hd.2.1∧∀ (j:Nat) (q:Nd×Hdr) (c:Hg),qs[j]?=some q→H[j]?=some c→q.1=c.1∧RowR S w q.2 c.2
abbrev HdL (w:World) (hd:Hdr) (H:List Hg):Prop:=HdS (fun k=>k<w.heap.size) w hd H
abbrev HdF (w0 w:World) (hd:Hdr) (H:List Hg):Prop:=HdS (fun k=>w0.heap.size≤k∧k<w.heap.size) w hd H
abbrev HdB (b:Nat) (w:World) (hd:Hdr) (H:List Hg):Prop:=HdS (fun k=>k<w.heap.size∧¬ k=b) w hd H
section
variable {S S':Nat→Prop} {w w' w0:World} {hd:Hdr} {H:List Hg} {l:List Rw}
theorem RowR.chg (h:RowR S w hd l) (k:Chg S' w w') (hs:∀ x,S x→S' x):RowR S w' hd l:=⟨Rd.chg h.1 k hs,h.2⟩
theorem RowR.mono (h:RowR S w hd l) (hs:∀ x,S x→S' x):RowR S' w hd l:=⟨Rd.mono h.1 hs,h.2⟩
theorem RowR.len (h:RowR S w hd l):l.length=hd.2.1:=h.1.1
theorem HdS.chg (h:HdS S w hd H) (k:Chg S' w w') (hs:∀ x,S x→S' x):HdS S w' hd H:=by
 obtain ⟨qs,h1,h2,h3,h4⟩:=h
 exact ⟨qs,Rd.chg h1 k hs,h2,h3,fun j q c hq hc=>⟨(h4 j q c hq hc).1,(h4 j q c hq hc).2.chg k hs⟩⟩
theorem HdS.mono (h:HdS S w hd H) (hs:∀ x,S x→S' x):HdS S' w hd H:=by
 obtain ⟨qs,h1,h2,h3,h4⟩:=h
 exact ⟨qs,Rd.mono h1 hs,h2,h3,fun j q c hq hc=>⟨(h4 j q c hq hc).1,(h4 j q c hq hc).2.mono hs⟩⟩
theorem HdS.len (h:HdS S w hd H):H.length=hd.2.1:=by obtain ⟨qs,_,_,h3,_⟩:=h;exact h3
theorem HdS.wf (h:HdS S w hd H):WfH hd:=by obtain ⟨qs,_,h2,_⟩:=h;exact h2
theorem HdL.nx (h:HdL w hd H) (k:Ex w w'):HdL w' hd H:=(HdS.chg h k (fun _ hx=>hx)).mono (fun _ hx=>Nat.lt_of_lt_of_le hx k.size)
theorem HdF.nx (h:HdF w0 w hd H) (k:Ex w w'):HdF w0 w' hd H:=(HdS.chg h k (fun _ hx=>hx.2)).mono (fun _ hx=>⟨hx.1,Nat.lt_of_lt_of_le hx.2 k.size⟩)
theorem HdB.nxb {b:Nat} (h:HdB b w hd H) (k:Exb b w w'):HdB b w' hd H:=(HdS.chg h k (fun _ hx=>hx)).mono (fun _ hx=>⟨Nat.lt_of_lt_of_le hx.1 k.size,hx.2⟩)
theorem HdF.b {b:Nat} (h:HdF w0 w hd H) (hb:b<w0.heap.size):HdB b w hd H:=HdS.mono h (fun x hx=>⟨hx.2,by have:=hx.1;omega⟩)
theorem HdF.rd (h:HdF w0 w hd H):HdL w hd H:=HdS.mono h (fun _ hx=>hx.2)
theorem HdB.rd {b:Nat} (h:HdB b w hd H):HdL w hd H:=HdS.mono h (fun _ hx=>hx.1)
theorem HdS.at (h:HdS S w hd H) {j:Nat} (hj:j<H.length) :
  ∃ x o a' n' c' c,hd.1=some ⟨x,o,none⟩∧S x∧H[j]?=some c∧w.cell? ⟨x,o+j*4,none⟩=some (.int .i64 c.1.id)∧w.cell? ⟨x,o+j*4+1,none⟩=some (.string c.1.key)∧w.cell? ⟨x,o+j*4+2,none⟩=some (.int .u32 c.1.word)∧w.cell? ⟨x,o+j*4+3,none⟩=some (.slice a' n' c') ∧
   RowR S w (a',n',c') c.2:=by
 obtain ⟨qs,h1,h2,h3,h4⟩:=h
 obtain ⟨x,o,q,e,hx,hq,hc⟩:=Rd.at h1 (show j<hd.2.1 by omega)
 have hcc:=List.getElem?_eq_getElem hj
 obtain ⟨r1,r2⟩:=h4 j q _ hq hcc
 refine ⟨x,o,q.2.1,q.2.2.1,q.2.2.2,_,e,hx,hcc,?_,?_,?_,?_,r2⟩
 ·rw [← r1];exact hc 0 _ rfl
 ·rw [← r1];exact hc 1 _ rfl
 ·rw [← r1];exact hc 2 _ rfl
 ·exact hc 3 _ rfl
end
def loadsH (H:List Hg):List Nat:=H.map fun c=>c.2.length
def MvLoRel (H:List Hg) (w:World) (o i:Value) (wr:World):Prop:=∃ k:Nat,k≤H.length∧i=.int .i64 k∧OwnL 1 encI 3 w.heap.size wr o ((loadsH (H.take k)).map fun (n:Nat)=>(n:Int))∧Ex w wr
def MvNoRel (H:List Hg) (w:World) (o i:Value) (wr:World):Prop:=∃ k:Nat,k≤H.length∧i=.int .i64 k∧OwnL 3 encN 36 w.heap.size wr o ((H.take k).map Prod.fst)∧Ex w wr
def TbRel (H:List Hg) (w:World) (o i:Value) (wr:World):Prop:=∃ k:Nat,k≤H.length∧i=.int .i64 k∧OwnL 2 encR 199 w.heap.size wr o ((H.take k).flatMap Prod.snd)∧Ex w wr
theorem take_snocH {H:List Hg} {k:Nat} {c:Hg} (h:H[k]?=some c):H.take (k+1)=H.take k++[c]:=by rw [List.take_add_one,h];rfl
set_option maxRecDepth 100000 in
set_option maxHeartbeats 4000000 in
theorem loads_p (a:Option Addr) (n c:Nat) (H:List Hg) (w:World) (h:HdL w (a,n,c) H) (hn:n≤1000) :
  Calls Tryz.prog 47 #[.slice a n c] w fun e w'=>∃ v,e=.returned v∧OwnL 1 encI 3 w.heap.size w' v ((loadsH H).map fun (n:Nat)=>(n:Int))∧Ex w w':=by
 have HL:=lH h.len
 have HS:=lH h
 have hHn:H.length=n:=HL.out
 clear h
 go_enter Tryz.func47,Tryz.ntmps47
 go_wp2_with fail
 go_loopw [3,8] (fun o i wr=>MvLoRel H w o i wr) (fun _ i _=>n-(intOf i).toNat)
 case atStart=>exact ⟨0,by omega,rfl,OwnL.nil _ _ _ _ _,Ex.refl _⟩
 case round =>
  obtain ⟨k,hk,rfl,own,kw⟩:=hrel
  obtain ⟨wi,rfl⟩:∃ wi:World,wi=wr:=⟨_,rfl⟩
  have KW:=lH kw
  have OWN:=lH own
  by_cases hkn:k<n
  ·obtain ⟨x,o,a',n',c',d,he,hx,hd,e0,e1,e2,e3,hr⟩:=(HdL.nx HS.out kw).at (show k<H.length by omega)
   simp only at he
   subst he
   have hlr:=hr.len
   have TK:=lH (take_snocH hd)
   have HLR:=lH hlr
   have hol:((loadsH (H.take k)).map fun (n:Nat)=>(n:Int)).length≤1000:=by unfold loadsH;simp;omega
   have zw:=kw.size
   clear hr hd own kw hlr
   have B5:=Blk.new wi [.int .i64 d.1.id,.string d.1.key,.int .u32 d.1.word,.slice a' n' c'] 91
   have kk:=Ex.new wi (.cells #[.int .i64 d.1.id,.string d.1.key,.int .u32 d.1.word,.slice a' n' c'] 91)
   obtain ⟨w1,hw1⟩:∃ w1,w1=wi.alloc (.cells #[.int .i64 d.1.id,.string d.1.key,.int .u32 d.1.word,.slice a' n' c'] 91):=⟨_,rfl⟩
   obtain ⟨g5,hg5⟩:∃ g5,g5=wi.heap.size:=⟨_,rfl⟩
   replace B5:Blk w1 g5 [.int .i64 d.1.id,.string d.1.key,.int .u32 d.1.word,.slice a' n' c'] 91:=by rw [hw1,hg5];exact B5
   rw [← hw1] at kk
   have Hw1:=lH hw1
   have Hg5:=lH hg5
   have K1:=lH (KW.out.nx kk)
   have own1:=OWN.out.nx kk
   have z1:=kk.size
   clear kk hw1 hg5
   go_upto_region 5 with fail
   rw [← Hg5.out,← Hw1.out]
   clear Hg5 Hw1
   clear e0 e1 e2 e3
   have b3:=B5.cell 3 _ rfl
   have k5:=Ex.new w1 (.cells #[.int .i64 (n':Int)] 3)
   have SX:Sl 1 encI (w1.alloc (.cells #[.int .i64 (n':Int)] 3)) (some ⟨w1.heap.size,0,none⟩) 1 [(n':Int)]:=Sl.lit _ rfl rfl (fun _=>rfl) rfl
   have own5:=own1.nx k5
   have z5:=k5.size
   clear own1
   go_upto_region 6 with (at_builtin;(refine wpList_append_rd (enc:=encI) _ rfl _ _ 22 rfl w.heap.size 3 (.int .i64 0) 1 8 Tryz.underlying22 Tryz.infoI9 rfl (by omega) (by omega) _ _ own5 rfl _ _ 1 1 [(n':Int)] SX (fun h=>by cases h) (fun _=>rfl) (by simp [encI,Value.oneCell']) rfl (by omega) (by omega) (by omega) ?_);intro v7 w7 own7 ch0 ch1)
   have RR:=lH (show MvLoRel H w v7 (.int .i64 ((k:Int)+1)) w7 from ⟨k+1,by omega,by go_num,by rw [TK.out];unfold loadsH at own7 ⊢;rw [List.map_append,List.map_append];simp only [List.map_cons,List.map_nil,HLR.out];exact own7,Chg.trans (K1.out.nx k5) ch1⟩)
   clear own7 ch0 ch1 own5 SX k5 B5 b3
   go_wp2_with fail
   exact ⟨RR.out,by simp [intOf];omega⟩
  ·obtain rfl:k=n:=by omega
   rw [List.take_of_length_le (by omega)] at own
   have OW:=lH own
   clear own kw OWN
   go_wp2_with fail
   go_ret
   exact ⟨_,rfl,OW.out,KW.out⟩
def TblOk (l:List Rw):Prop:=l.Pairwise (fun x y=>ltB x.1 y.1)∧(∀ r∈l,r.1.size≤64∧r.2.size≤64)∧l.length≤1024
theorem TblOk.nil:TblOk []:=by
 refine ⟨List.Pairwise.nil,?_,?_⟩
 ·intro r h
  cases h
 ·show 0≤1024
  omega
def SlcRel (lo hi:ByteArray) (top:Bool) (l:List Rw) (w:World) (o i:Value) (wr:World):Prop :=
 ∃ k:Nat,k≤l.length∧i=.int .i64 k∧OwnL 2 encR 199 w.heap.size wr o ((l.take k).filter fun r=>hasV lo hi top r.1)∧Ex w wr
theorem take_snocR {l:List Rw} {k:Nat} {r:Rw} (h:l[k]?=some r):l.take (k+1)=l.take k++[r]:=by rw [List.take_add_one,h];rfl
theorem RowR.at {S:Nat→Prop} {w:World} {hd:Hdr} {l:List Rw} (h:RowR S w hd l) {j:Nat} (hj:j<l.length):∃ x o r,hd.1=some ⟨x,o,none⟩∧S x∧l[j]?=some r∧w.cell? ⟨x,o+j*2,none⟩=some (.string r.1)∧w.cell? ⟨x,o+j*2+1,none⟩=some (.string r.2):=by
 obtain ⟨x,o,r,e,hx,hr,hc⟩:=Rd.at h.1 (show j<hd.2.1 by have:=h.len;omega)
 exact ⟨x,o,r,e,hx,hr,hc 0 _ rfl,hc 1 _ rfl⟩
abbrev RowL (w:World) (hd:Hdr) (l:List Rw):Prop:=RowR (fun k=>k<w.heap.size) w hd l
theorem RowL.nx {w w':World} {hd:Hdr} {l:List Rw} (h:RowL w hd l) (k:Ex w w'):RowL w' hd l:=RowR.mono (RowR.chg h k (fun _ hx=>hx)) (fun _ hx=>Nat.lt_of_lt_of_le hx k.size)
theorem OwnL.rowF {base:Nat} {w:World} {v:Value} {l:List Rw} (h:OwnL 2 encR 199 base w v l):∃ a c,v=.slice a l.length c∧RowR (fun k=>base≤k∧k<w.heap.size) w (a,l.length,c) l:=by
 rcases OwnW.rd h.toW (fun _=>rfl) with ⟨a,c,e,r,c1,c2,_,c4⟩
 exact ⟨a,c,e,r,c1,c2,c4⟩
theorem RowR.l {base:Nat} {w:World} {hd:Hdr} {l:List Rw} (h:RowR (fun k=>base≤k∧k<w.heap.size) w hd l):RowL w hd l:=RowR.mono h (fun _ hx=>hx.2)
set_option maxRecDepth 100000 in
set_option maxHeartbeats 4000000 in
theorem slice_k (a:Option Addr) (n c:Nat) (l:List Rw) (lo hi:ByteArray) (top:Bool) (w:World) (h:RowL w (a,n,c) l) (hn:n≤10000) (hk:∀ r∈l,r.1.size≤64) (hg:RgOk lo hi top) :
  Calls Tryz.prog 136 #[.slice a n c,.agg #[.string lo,.bool false,.string hi,.bool top]] w fun e w'=>∃ v,e=.returned v∧OwnL 2 encR 199 w.heap.size w' v (l.filter fun r=>hasV lo hi top r.1)∧Ex w w':=by
 have hln:l.length=n:=h.len
 have HS:=lH h
 have HK:=lH hk
 have HG:=lH hg
 have B3:=Blk.new w [.string lo,.bool false,.string hi,.bool top] 45
 have kk:=Ex.new w (.cells #[.string lo,.bool false,.string hi,.bool top] 45)
 obtain ⟨w1,hw1⟩:∃ w1,w1=w.alloc (.cells #[.string lo,.bool false,.string hi,.bool top] 45):=⟨_,rfl⟩
 obtain ⟨g3,hg3⟩:∃ g3,g3=w.heap.size:=⟨_,rfl⟩
 replace B3:Blk w1 g3 [.string lo,.bool false,.string hi,.bool top] 45:=by rw [hw1,hg3];exact B3
 rw [← hw1] at kk
 have Hw1:=lH hw1
 have Hg3:=lH hg3
 have K1:=lH kk
 have B3H:=lH B3
 have z01:=kk.size
 clear kk hw1 hg3 B3 h hk hg
 go_enter Tryz.func136,Tryz.ntmps136
 go_upto_region 1 with fail
 rw [← Hg3.out,← Hw1.out]
 clear Hg3 Hw1
 go_wp2_with fail
 go_loopw [5,10] (fun o i wr=>SlcRel lo hi top l w1 o i wr) (fun _ i _=>n-(intOf i).toNat)
 case atStart=>exact ⟨0,by omega,rfl,OwnL.nil _ _ _ _ _,Ex.refl _⟩
 case round =>
  obtain ⟨k,hkl,rfl,own,kw⟩:=hrel
  obtain ⟨wi,rfl⟩:∃ wi:World,wi=wr:=⟨_,rfl⟩
  have KW:=lH kw
  have OWN:=lH own
  by_cases hkn:k<n
  ·obtain ⟨x,oo,r,he,hx,hr,e0,e1⟩:=(RowL.nx HS.out (K1.out.nx kw)).at (show k<l.length by omega)
   simp only at he
   subst he
   have TK:=lH (take_snocR hr)
   have hr64:=HK.out r (List.mem_of_getElem? hr)
   have hfl:((l.take k).filter fun r=>hasV lo hi top r.1).length≤10000:=by
    have:=List.length_filter_le (fun r:Rw=>hasV lo hi top r.1) (l.take k)
    rw [List.length_take] at this
    omega
   have zw:=kw.size
   clear hr own kw
   have B7:=Blk.new wi [.string r.1,.string r.2] 199
   have kk:=Ex.new wi (.cells #[.string r.1,.string r.2] 199)
   obtain ⟨w2,hw2⟩:∃ w2,w2=wi.alloc (.cells #[.string r.1,.string r.2] 199):=⟨_,rfl⟩
   obtain ⟨g7,hg7⟩:∃ g7,g7=wi.heap.size:=⟨_,rfl⟩
   replace B7:Blk w2 g7 [.string r.1,.string r.2] 199:=by rw [hw2,hg7];exact B7
   rw [← hw2] at kk
   have Hw2:=lH hw2
   have Hg7:=lH hg7
   have K2:=lH (KW.out.nx kk)
   have OWN2:=lH (OWN.out.nx kk)
   have B7H:=lH B7
   have z2:=kk.size
   clear kk hw2 hg7 B7
   go_upto_region 5 with fail
   rw [← Hg7.out,← Hw2.out]
   clear Hg7 Hw2
   clear e0 e1
   have b0:=(B3H.out.nx K2.out).cell 0 _ rfl
   have b1:=(B3H.out.nx K2.out).cell 1 _ rfl
   have b2:=(B3H.out.nx K2.out).cell 2 _ rfl
   have b3:=(B3H.out.nx K2.out).cell 3 _ rfl
   have c0:=B7H.out.cell 0 _ rfl
   go_wp2_with fail
   refine (contains_k lo hi r.1 top HG.out hr64 _).mono ?_
   rintro e w3 ⟨rfl,kk⟩
   have K3:=lH (K2.out.nx kk)
   have own3:=OWN2.out.nx kk
   have B73:=B7H.out.nx kk
   have z3:=kk.size
   clear kk b0 b1 b2 b3 c0
   cases hv:hasV lo hi top r.1 with
   | false =>
    have RR:=lH (show SlcRel lo hi top l w1 _ (.int .i64 ((k:Int)+1)) w3 from ⟨k+1,by omega,by go_num,by rw [TK.out,List.filter_append];simp only [List.filter_cons,hv,List.filter_nil,Bool.false_eq_true,if_false,List.append_nil];exact own3,K3.out⟩)
    clear hv own3
    go_wp2_with fail
    exact ⟨RR.out,by simp [intOf];omega⟩
   | true =>
    have HV:=lH hv
    have c0:=B73.cell 0 _ rfl
    have c1:=B73.cell 1 _ rfl
    have k5:=Ex.new w3 (.cells #[.string r.1,.string r.2] 199)
    have SX:Sl 2 encR (w3.alloc (.cells #[.string r.1,.string r.2] 199)) (some ⟨w3.heap.size,0,none⟩) 1 [r]:=Sl.lit _ rfl rfl (fun _=>rfl) rfl
    have own5:=own3.nx k5
    have z5:=k5.size
    clear hv own3 B73
    go_upto_region 7 with (at_builtin;(refine wpList_append_rd (enc:=encR) _ rfl _ _ 85 rfl w1.heap.size 199 (.agg #[.string ByteArray.empty,.string ByteArray.empty]) 2 32 Tryz.underlying85 Tryz.infoRw rfl (by omega) (by omega) _ _ own5 rfl _ _ 1 1 [r] SX (fun h=>by cases h) (fun _=>rfl) (by simp [encR,Value.oneCell']) rfl (by omega) (by omega) (by omega) ?_);intro v7 w7 own7 ch0 ch1)
    have RR:=lH (show SlcRel lo hi top l w1 v7 (.int .i64 ((k:Int)+1)) w7 from ⟨k+1,by omega,by go_num,by rw [TK.out,List.filter_append];simp only [List.filter_cons,HV.out,List.filter_nil,if_true];exact own7,Chg.trans (K3.out.nx k5) ch1⟩)
    clear own7 ch0 ch1 own5 SX k5 c0 c1
    go_wp2_with fail
    exact ⟨RR.out,by simp [intOf];omega⟩
  ·obtain rfl:k=n:=by omega
   rw [List.take_of_length_le (by omega)] at own
   have OW:=lH own
   clear own kw OWN
   go_wp2_with fail
   go_ret
   exact ⟨_,rfl,OW.out.base z01,K1.out.nx KW.out⟩
set_option maxRecDepth 100000 in
set_option maxHeartbeats 4000000 in
theorem slice_r (a:Option Addr) (n c:Nat) (l:List Rw) (lo hi:ByteArray) (top:Bool) (w:World) (h:RowL w (a,n,c) l) (hn:n≤10000) (hk:∀ r∈l,r.1.size≤64) (hg:RgOk lo hi top) :
  Calls Tryz.prog 45 #[.slice a n c,.agg #[.string lo,.bool false,.string hi,.bool top]] w fun e w'=>∃ v,e=.returned v∧OwnL 2 encR 199 w.heap.size w' v (l.filter fun r=>hasV lo hi top r.1)∧Ex w w':=by
 have hln:l.length=n:=h.len
 have HS:=lH h
 have HK:=lH hk
 have HG:=lH hg
 have B3:=Blk.new w [.string lo,.bool false,.string hi,.bool top] 45
 have kk:=Ex.new w (.cells #[.string lo,.bool false,.string hi,.bool top] 45)
 obtain ⟨w1,hw1⟩:∃ w1,w1=w.alloc (.cells #[.string lo,.bool false,.string hi,.bool top] 45):=⟨_,rfl⟩
 obtain ⟨g3,hg3⟩:∃ g3,g3=w.heap.size:=⟨_,rfl⟩
 replace B3:Blk w1 g3 [.string lo,.bool false,.string hi,.bool top] 45:=by rw [hw1,hg3];exact B3
 rw [← hw1] at kk
 have Hw1:=lH hw1
 have Hg3:=lH hg3
 have K1:=lH kk
 have B3H:=lH B3
 have z01:=kk.size
 clear kk hw1 hg3 B3 h hk hg
 go_enter Tryz.func45,Tryz.ntmps45
 go_upto_region 1 with fail
 rw [← Hg3.out,← Hw1.out]
 clear Hg3 Hw1
 go_wp2_with fail
 go_loopw [5,10] (fun o i wr=>SlcRel lo hi top l w1 o i wr) (fun _ i _=>n-(intOf i).toNat)
 case atStart=>exact ⟨0,by omega,rfl,OwnL.nil _ _ _ _ _,Ex.refl _⟩
 case round =>
  obtain ⟨k,hkl,rfl,own,kw⟩:=hrel
  obtain ⟨wi,rfl⟩:∃ wi:World,wi=wr:=⟨_,rfl⟩
  have KW:=lH kw
  have OWN:=lH own
  by_cases hkn:k<n
  ·obtain ⟨x,oo,r,he,hx,hr,e0,e1⟩:=(RowL.nx HS.out (K1.out.nx kw)).at (show k<l.length by omega)
   simp only at he
   subst he
   have TK:=lH (take_snocR hr)
   have hr64:=HK.out r (List.mem_of_getElem? hr)
   have hfl:((l.take k).filter fun r=>hasV lo hi top r.1).length≤10000:=by
    have:=List.length_filter_le (fun r:Rw=>hasV lo hi top r.1) (l.take k)
    rw [List.length_take] at this
    omega
   have zw:=kw.size
   clear hr own kw
   have B7:=Blk.new wi [.string r.1,.string r.2] 199
   have kk:=Ex.new wi (.cells #[.string r.1,.string r.2] 199)
   obtain ⟨w2,hw2⟩:∃ w2,w2=wi.alloc (.cells #[.string r.1,.string r.2] 199):=⟨_,rfl⟩
   obtain ⟨g7,hg7⟩:∃ g7,g7=wi.heap.size:=⟨_,rfl⟩
   replace B7:Blk w2 g7 [.string r.1,.string r.2] 199:=by rw [hw2,hg7];exact B7
   rw [← hw2] at kk
   have Hw2:=lH hw2
   have Hg7:=lH hg7
   have K2:=lH (KW.out.nx kk)
   have OWN2:=lH (OWN.out.nx kk)
   have B7H:=lH B7
   have z2:=kk.size
   clear kk hw2 hg7 B7
   go_upto_region 5 with fail
   rw [← Hg7.out,← Hw2.out]
   clear Hg7 Hw2
   clear e0 e1
   have b0:=(B3H.out.nx K2.out).cell 0 _ rfl
   have b1:=(B3H.out.nx K2.out).cell 1 _ rfl
   have b2:=(B3H.out.nx K2.out).cell 2 _ rfl
   have b3:=(B3H.out.nx K2.out).cell 3 _ rfl
   have c0:=B7H.out.cell 0 _ rfl
   go_wp2_with fail
   refine (contains_r lo hi r.1 top HG.out hr64 _).mono ?_
   rintro e w3 ⟨rfl,kk⟩
   have K3:=lH (K2.out.nx kk)
   have own3:=OWN2.out.nx kk
   have B73:=B7H.out.nx kk
   have z3:=kk.size
   clear kk b0 b1 b2 b3 c0
   cases hv:hasV lo hi top r.1 with
   | false =>
    have RR:=lH (show SlcRel lo hi top l w1 _ (.int .i64 ((k:Int)+1)) w3 from ⟨k+1,by omega,by go_num,by rw [TK.out,List.filter_append];simp only [List.filter_cons,hv,List.filter_nil,Bool.false_eq_true,if_false,List.append_nil];exact own3,K3.out⟩)
    clear hv own3
    go_wp2_with fail
    exact ⟨RR.out,by simp [intOf];omega⟩
   | true =>
    have HV:=lH hv
    have c0:=B73.cell 0 _ rfl
    have c1:=B73.cell 1 _ rfl
    have k5:=Ex.new w3 (.cells #[.string r.1,.string r.2] 199)
    have SX:Sl 2 encR (w3.alloc (.cells #[.string r.1,.string r.2] 199)) (some ⟨w3.heap.size,0,none⟩) 1 [r]:=Sl.lit _ rfl rfl (fun _=>rfl) rfl
    have own5:=own3.nx k5
    have z5:=k5.size
    clear hv own3 B73
    go_upto_region 7 with (at_builtin;(refine wpList_append_rd (enc:=encR) _ rfl _ _ 85 rfl w1.heap.size 199 (.agg #[.string ByteArray.empty,.string ByteArray.empty]) 2 32 Tryz.underlying85 Tryz.infoRw rfl (by omega) (by omega) _ _ own5 rfl _ _ 1 1 [r] SX (fun h=>by cases h) (fun _=>rfl) (by simp [encR,Value.oneCell']) rfl (by omega) (by omega) (by omega) ?_);intro v7 w7 own7 ch0 ch1)
    have RR:=lH (show SlcRel lo hi top l w1 v7 (.int .i64 ((k:Int)+1)) w7 from ⟨k+1,by omega,by go_num,by rw [TK.out,List.filter_append];simp only [List.filter_cons,HV.out,List.filter_nil,if_true];exact own7,Chg.trans (K3.out.nx k5) ch1⟩)
    clear own7 ch0 ch1 own5 SX k5 c0 c1
    go_wp2_with fail
    exact ⟨RR.out,by simp [intOf];omega⟩
  ·obtain rfl:k=n:=by omega
   rw [List.take_of_length_le (by omega)] at own
   have OW:=lH own
   clear own kw OWN
   go_wp2_with fail
   go_ret
   exact ⟨_,rfl,OW.out.base z01,K1.out.nx KW.out⟩
def TvRel (n:Nat) (w:World) (i:Value) (wr:World):Prop:=∃ k:Nat,k≤n∧i=.int .i64 k∧Ex w wr
theorem rgV {w w':World} (h:Ex w.drew w'):Ex w w':=(Ex.refl w).drew.nx h
set_option maxHeartbeats 1000000 in
theorem vrow_p (r:Rw) (h1:r.1.size≤64) (h2:r.2.size≤64) (w:World):Calls Tryz.prog 184 #[.agg #[.string r.1,.string r.2]] w fun e w'=>e=.returned (.bool true)∧Ex w w':=by
 have d1:decide ((r.1.size:Int)≤64)=true:=by simp;omega
 have d2:(r.2.size:Int)≤64:=by omega
 have B1:=Blk.new w [.string r.1,.string r.2] 199
 have kk:=Ex.new w (.cells #[.string r.1,.string r.2] 199)
 obtain ⟨w1,hw1⟩:∃ w1,w1=w.alloc (.cells #[.string r.1,.string r.2] 199):=⟨_,rfl⟩
 obtain ⟨g1,hg1⟩:∃ g1,g1=w.heap.size:=⟨_,rfl⟩
 replace B1:Blk w1 g1 [.string r.1,.string r.2] 199:=by rw [hw1,hg1];exact B1
 rw [← hw1] at kk
 have Hw1:=lH hw1
 have Hg1:=lH hg1
 have K1:=lH kk
 clear kk hw1 hg1 h1 h2
 go_enter Tryz.func184,Tryz.ntmps184
 go_upto_region 1 with fail
 rw [← Hg1.out,← Hw1.out]
 clear Hg1 Hw1
 have b0:=B1.cell 0 _ rfl
 have b1:=B1.cell 1 _ rfl
 clear B1
 go_wp2_with fail
 refine (vkey_p r.1 _).mono ?_
 rintro e w2 ⟨rfl,rfl⟩
 rw [d1]
 clear d1
 go_wp2_with fail
 go_ret
 exact ⟨rfl,K1.out⟩
set_option maxRecDepth 100000 in
set_option maxHeartbeats 4000000 in
theorem tvalid_k (a:Option Addr) (n c:Nat) (l:List Rw) (w:World) (h:RowL w (a,n,c) l) (ht:TblOk l):Calls Tryz.prog 135 #[.slice a n c] w fun e w'=>e=.returned (.bool true)∧Ex w w':=by
 have hln:l.length=n:=h.len
 have HS:=lH h
 have HT:=lH ht
 have hn:n≤1024:=by have:=ht.2.2;omega
 clear h ht
 go_enter Tryz.func135,Tryz.ntmps135
 go_wp2_with fail
 go_loopw [10] (fun i wr=>TvRel n w i wr) (fun i _=>n-(intOf i).toNat)
 case atStart=>exact ⟨0,by omega,rfl,Ex.refl _⟩
 case round =>
  obtain ⟨k,hkl,rfl,kw⟩:=hrel
  obtain ⟨wi,rfl⟩:∃ wi:World,wi=wr:=⟨_,rfl⟩
  have KW:=lH kw
  by_cases hkn:k<n
  ·obtain ⟨x,oo,r,he,hx,hr,e0,e1⟩:=(RowL.nx HS.out kw).at (show k<l.length by omega)
   simp only at he
   subst he
   have hr64:=HT.out.2.1 r (List.mem_of_getElem? hr)
   have HRW:=lH hr
   clear kw hr
   have B4:=Blk.new wi [.string r.1,.string r.2] 199
   have kk:=Ex.new wi (.cells #[.string r.1,.string r.2] 199)
   obtain ⟨w1,hw1⟩:∃ w1,w1=wi.alloc (.cells #[.string r.1,.string r.2] 199):=⟨_,rfl⟩
   obtain ⟨g4,hg4⟩:∃ g4,g4=wi.heap.size:=⟨_,rfl⟩
   replace B4:Blk w1 g4 [.string r.1,.string r.2] 199:=by rw [hw1,hg4];exact B4
   rw [← hw1] at kk
   have Hw1:=lH hw1
   have Hg4:=lH hg4
   have K1:=lH kk
   have B4H:=lH B4
   clear kk hw1 hg4 B4
   go_upto_region 6 with fail
   rw [← Hg4.out,← Hw1.out]
   clear Hg4 Hw1
   clear e0 e1
   by_cases hk0:k=0
   ·have d0:¬ (k:Int)>0:=by omega
    subst hk0
    refine wp_region_held_drew (S:=Ex w1.drew) (by kernel_rfl) (Ex.refl _) (fun hHeld=>?_)
    refine tkH 0 (v:=?_) rfl (by kernel_rfl) (fun _ _ _ h=>h) (by rfl) ?hyr1x0 (by assumption) ?restr1x0
    case hyr1x0=>intro wq hSw;(have c0:=(B4H.out.nx (rgV hSw)).cell 0 _ rfl;have c1:=(B4H.out.nx (rgV hSw)).cell 1 _ rfl;go_simp);(try with_reducible rfl)
    try simp only [Act.put,sA,sB,sC]
    refine rH 1 (by kernel_rfl) rfl fun K hK=>?_
    go_simp
    (with_reducible refine (vrow_p r hr64.1 hr64.2 _).mono ?_)
    rintro e w2 ⟨rfl,k4⟩
    replace k4:Ex w1.drew w2:=k4
    refine hK.out _ _ k4 (fun _=>?_)
    clear hK K
    try simp only [Act.put,sA,sB,sC]
    refine wpAnyH_switch (S':=Ex w2) (fun _ hSw=>Ex.nx k4 hSw) ?_
    clear hHeld
    have hHeld:=Ex.refl w2
    refine tkH 2 (v:=?_) rfl (by kernel_rfl) (fun _ _ _ h=>h) (by rfl) ?hyr1x2 (by assumption) ?restr1x2
    case hyr1x2=>intro wq hSw;(go_simp);(try with_reducible rfl)
    try simp only [Act.put,sA,sB,sC]
    refine tkH 3 (v:=?_) rfl (by kernel_rfl) (fun _ _ _ h=>h) (by rfl) ?hyr1x3 (by assumption) ?restr1x3
    case hyr1x3=>intro wq hSw;(go_simp);(try with_reducible rfl)
    try simp only [Act.put,sA,sB,sC]
    refine tkH 4 (v:=?_) rfl (by kernel_rfl) (fun _ _ _ h=>h) (by rfl) ?hyr1x4 (by assumption) ?restr1x4
    case hyr1x4=>intro wq hSw;(go_simp);(try with_reducible rfl)
    try simp only [Act.put,sA,sB,sC]
    refine tkH 5 (v:=?_) rfl (by kernel_rfl) (fun _ _ _ h=>h) (by rfl) ?hyr1x5 (by assumption) ?restr1x5
    case hyr1x5=>intro wq hSw;(go_simp);(try with_reducible rfl)
    try simp only [Act.put,sA,sB,sC]
    refine tkH 6 (v:=?_) rfl (by kernel_rfl) (fun _ _ _ h=>h) (by rfl) ?hyr1x6 (by assumption) ?restr1x6
    case hyr1x6=>intro wq hSw;(go_simp);(try with_reducible rfl)
    try simp only [Act.put,sA,sB,sC]
    refine wpAnyH_take (i:=7) (oi:=⟨_,_,_,_,_,_⟩) (v:=undef) rfl (by kernel_rfl) (by kernel_rfl) (by kernel_rfl) (fun _ _ _ h=>h) (Or.inr ⟨by rfl,rfl⟩) (by assumption) ?_
    try simp only [Act.put,sA,sB,sC]
    refine wpAnyH_take (i:=8) (oi:=⟨_,_,_,_,_,_⟩) (v:=undef) rfl (by kernel_rfl) (by kernel_rfl) (by kernel_rfl) (fun _ _ _ h=>h) (Or.inr ⟨by rfl,rfl⟩) (by assumption) ?_
    try simp only [Act.put,sA,sB,sC]
    refine wpAnyH_take (i:=9) (oi:=⟨_,_,_,_,_,_⟩) (v:=undef) rfl (by kernel_rfl) (by kernel_rfl) (by kernel_rfl) (fun _ _ _ h=>h) (Or.inr ⟨by rfl,rfl⟩) (by assumption) ?_
    try simp only [Act.put,sA,sB,sC]
    refine wpAnyH_take (i:=10) (oi:=⟨_,_,_,_,_,_⟩) (v:=undef) rfl (by kernel_rfl) (by kernel_rfl) (by kernel_rfl) (fun _ _ _ h=>h) (Or.inr ⟨by rfl,rfl⟩) (by assumption) ?_
    try simp only [Act.put,sA,sB,sC]
    refine wpAnyH_take (i:=11) (oi:=⟨_,_,_,_,_,_⟩) (v:=undef) rfl (by kernel_rfl) (by kernel_rfl) (by kernel_rfl) (fun _ _ _ h=>h) (Or.inr ⟨by rfl,rfl⟩) (by assumption) ?_
    try simp only [Act.put,sA,sB,sC]
    refine wpAnyH_take (i:=12) (oi:=⟨_,_,_,_,_,_⟩) (v:=undef) rfl (by kernel_rfl) (by kernel_rfl) (by kernel_rfl) (fun _ _ _ h=>h) (Or.inr ⟨by rfl,rfl⟩) (by assumption) ?_
    try simp only [Act.put,sA,sB,sC]
    refine wpAnyH_take (i:=13) (oi:=⟨_,_,_,_,_,_⟩) (v:=undef) rfl (by kernel_rfl) (by kernel_rfl) (by kernel_rfl) (fun _ _ _ h=>h) (Or.inr ⟨by rfl,rfl⟩) (by assumption) ?_
    try simp only [Act.put,sA,sB,sC]
    refine wpAnyH_take (i:=14) (oi:=⟨_,_,_,_,_,_⟩) (v:=undef) rfl (by kernel_rfl) (by kernel_rfl) (by kernel_rfl) (fun _ _ _ h=>h) (Or.inr ⟨by rfl,rfl⟩) (by assumption) ?_
    try simp only [Act.put,sA,sB,sC]
    refine wpAnyH_take (i:=15) (oi:=⟨_,_,_,_,_,_⟩) (v:=undef) rfl (by kernel_rfl) (by kernel_rfl) (by kernel_rfl) (fun _ _ _ h=>h) (Or.inr ⟨by rfl,rfl⟩) (by assumption) ?_
    try simp only [Act.put,sA,sB,sC]
    refine tkH 16 (v:=?_) rfl (by kernel_rfl) (fun _ _ _ h=>h) (by rfl) ?hyr1x16 (by assumption) ?restr1x16
    case hyr1x16=>intro wq hSw;(go_simp);(try with_reducible rfl)
    try simp only [Act.put,sA,sB,sC]
    refine tkH 17 (v:=?_) rfl (by kernel_rfl) (fun _ _ _ h=>h) (by rfl) ?hyr1x17 (by assumption) ?restr1x17
    case hyr1x17=>intro wq hSw;(go_simp);(try with_reducible rfl)
    try simp only [Act.put,sA,sB,sC]
    refine wpAnyH_done (by kernel_rfl) ?_ _
    have RR:=lH (show TvRel n w (.int .i64 1) w2 from ⟨1,by omega,rfl,KW.out.nx (K1.out.nx ((Ex.refl w1).drew.nx k4))⟩)
    clear k4
    go_wp2_with fail
    exact ⟨RR.out,by simp [intOf];omega⟩
   ·have d0:(k:Int)>0:=by omega
    have dq1:decide ((0:Int)<(k:Int))=true:=by simp;omega
    have dq2:decide (0<k)=true:=by simp;omega
    have hk1:k-1<l.length:=by omega
    obtain ⟨y,hy⟩:∃ y,l[k-1]?=some y:=⟨_,List.getElem?_eq_getElem hk1⟩
    have hlt:Op.bytesLess y.1.toList r.1.toList=true:=by
     have:=HT.out.1
     rw [List.pairwise_iff_getElem] at this
     have h1:=this (k-1) k hk1 (by omega) (by omega)
     rw [(List.getElem?_eq_some_iff.1 hy).2,(List.getElem?_eq_some_iff.1 HRW.out).2] at h1
     exact h1
    have PV:=lH (fun wq (kq:Ex w1 wq)=>show wq.cell? ⟨x,oo+(k-1)*2,none⟩=some (.string y.1) from by
     obtain ⟨x2,o2,y2,he2,_,hy2,q0,_⟩:=(RowL.nx HS.out (KW.out.nx (K1.out.nx kq))).at hk1
     simp only [Option.some.injEq,Addr.mk.injEq,and_true] at he2
     obtain ⟨rfl,rfl⟩:=he2
     rw [hy] at hy2
     cases hy2
     exact q0)
    obtain ⟨k1,hk1e⟩:∃ k1,k1=k-1:=⟨_,rfl⟩
    rw [← hk1e] at PV
    have wk1:IntKind.i64.wrap ((k:Int)-1)=(k1:Int):=by rw [IntWalk.i64_in _ (by omega)];omega
    have hk1n:(k1:Int)<(n:Int):=by omega
    clear hy hk1 hk1e hk0
    refine wp_region_held_drew (S:=Ex w1.drew) (by kernel_rfl) (Ex.refl _) (fun hHeld=>?_)
    refine tkH 0 (v:=?_) rfl (by kernel_rfl) (fun _ _ _ h=>h) (by rfl) ?hyr2x0 (by assumption) ?restr2x0
    case hyr2x0=>intro wq hSw;(have c0:=(B4H.out.nx (rgV hSw)).cell 0 _ rfl;have c1:=(B4H.out.nx (rgV hSw)).cell 1 _ rfl;go_simp);(try with_reducible rfl)
    try simp only [Act.put,sA,sB,sC]
    refine rH 1 (by kernel_rfl) rfl fun K hK=>?_
    go_simp
    (with_reducible refine (vrow_p r hr64.1 hr64.2 _).mono ?_)
    rintro e w2 ⟨rfl,k4⟩
    replace k4:Ex w1.drew w2:=k4
    refine hK.out _ _ k4 (fun _=>?_)
    clear hK K
    try simp only [Act.put,sA,sB,sC]
    refine wpAnyH_switch (S':=Ex w2) (fun _ hSw=>Ex.nx k4 hSw) ?_
    clear hHeld
    have hHeld:=Ex.refl w2
    refine tkH 2 (v:=?_) rfl (by kernel_rfl) (fun _ _ _ h=>h) (by rfl) ?hyr2x2 (by assumption) ?restr2x2
    case hyr2x2=>intro wq hSw;(go_simp);(try with_reducible rfl)
    try simp only [Act.put,sA,sB,sC]
    refine tkH 3 (v:=?_) rfl (by kernel_rfl) (fun _ _ _ h=>h) (by rfl) ?hyr2x3 (by assumption) ?restr2x3
    case hyr2x3=>intro wq hSw;(go_simp);(try with_reducible rfl)
    try simp only [Act.put,sA,sB,sC]
    refine tkH 4 (v:=?_) rfl (by kernel_rfl) (fun _ _ _ h=>h) (by rfl) ?hyr2x4 (by assumption) ?restr2x4
    case hyr2x4=>intro wq hSw;(go_simp);(try with_reducible rfl)
    try simp only [Act.put,sA,sB,sC]
    refine tkH 5 (v:=?_) rfl (by kernel_rfl) (fun _ _ _ h=>h) (by rfl) ?hyr2x5 (by assumption) ?restr2x5
    case hyr2x5=>intro wq hSw;(go_simp);(try with_reducible rfl)
    try simp only [Act.put,sA,sB,sC]
    refine tkH 6 (v:=?_) rfl (by kernel_rfl) (fun _ _ _ h=>h) (by rfl) ?hyr2x6 (by assumption) ?restr2x6
    case hyr2x6=>intro wq hSw;(go_simp);(try with_reducible rfl)
    try simp only [Act.put,sA,sB,sC]
    refine tkH 7 (v:=?_) rfl (by kernel_rfl) (fun _ _ _ h=>h) (by rfl) ?hyr2x7 (by assumption) ?restr2x7
    case hyr2x7=>intro wq hSw;(go_simp);(try with_reducible rfl)
    try simp only [Act.put,sA,sB,sC]
    refine tkH 8 (v:=?_) rfl (by kernel_rfl) (fun _ _ _ h=>h) (by rfl) ?hyr2x8 (by assumption) ?restr2x8
    case hyr2x8=>intro wq hSw;(go_simp);(try with_reducible rfl)
    try simp only [Act.put,sA,sB,sC]
    refine tkH 9 (v:=?_) rfl (by kernel_rfl) (fun _ _ _ h=>h) (by rfl) ?hyr2x9 (by assumption) ?restr2x9
    case hyr2x9=>intro wq hSw;(go_simp);(try with_reducible rfl)
    try simp only [Act.put,sA,sB,sC]
    refine tkH 10 (v:=?_) rfl (by kernel_rfl) (fun _ _ _ h=>h) (by rfl) ?hyr2x10 (by assumption) ?restr2x10
    case hyr2x10=>intro wq hSw;(go_simp);(try with_reducible rfl)
    try simp only [Act.put,sA,sB,sC]
    refine tkH 11 (v:=?_) rfl (by kernel_rfl) (fun _ _ _ h=>h) (by rfl) ?hyr2x11 (by assumption) ?restr2x11
    case hyr2x11=>intro wq hSw;(go_simp);(try with_reducible rfl)
    try simp only [Act.put,sA,sB,sC]
    refine tkH 12 (v:=?_) rfl (by kernel_rfl) (fun _ _ _ h=>h) (by rfl) ?hyr2x12 (by assumption) ?restr2x12
    case hyr2x12=>intro wq hSw;(have cq:=PV.out _ ((Ex.refl w1).drew.nx (k4.nx hSw));go_simp);(try with_reducible rfl)
    try simp only [Act.put,sA,sB,sC]
    refine tkH 13 (v:=?_) rfl (by kernel_rfl) (fun _ _ _ h=>h) (by rfl) ?hyr2x13 (by assumption) ?restr2x13
    case hyr2x13=>intro wq hSw;(go_simp);(try with_reducible rfl)
    try simp only [Act.put,sA,sB,sC]
    refine tkH 14 (v:=?_) rfl (by kernel_rfl) (fun _ _ _ h=>h) (by rfl) ?hyr2x14 (by assumption) ?restr2x14
    case hyr2x14=>intro wq hSw;(have cq:=(B4H.out.nx ((Ex.refl w1).drew.nx (k4.nx hSw))).cell 0 _ rfl;go_simp);(try with_reducible rfl)
    try simp only [Act.put,sA,sB,sC]
    refine tkH 15 (v:=?_) rfl (by kernel_rfl) (fun _ _ _ h=>h) (by rfl) ?hyr2x15 (by assumption) ?restr2x15
    case hyr2x15=>intro wq hSw;(go_simp);(try with_reducible rfl)
    try simp only [Act.put,sA,sB,sC]
    refine tkH 16 (v:=?_) rfl (by kernel_rfl) (fun _ _ _ h=>h) (by rfl) ?hyr2x16 (by assumption) ?restr2x16
    case hyr2x16=>intro wq hSw;(go_simp);(try with_reducible rfl)
    try simp only [Act.put,sA,sB,sC]
    refine tkH 17 (v:=?_) rfl (by kernel_rfl) (fun _ _ _ h=>h) (by rfl) ?hyr2x17 (by assumption) ?restr2x17
    case hyr2x17=>intro wq hSw;(go_simp);(try with_reducible rfl)
    try simp only [Act.put,sA,sB,sC]
    refine wpAnyH_done (by kernel_rfl) ?_ _
    have RR:=lH (show TvRel n w (.int .i64 ((k:Int)+1)) w2 from ⟨k+1,by omega,by go_num,KW.out.nx (K1.out.nx ((Ex.refl w1).drew.nx k4))⟩)
    clear k4
    go_wp2_with fail
    exact ⟨RR.out,by simp [intOf];omega⟩
  ·obtain rfl:k=n:=by omega
   clear kw
   go_wp2_with fail
   go_ret
   exact ⟨rfl,KW.out⟩
section
variable {I0:List (Int×Nat)} {R:List Rw} {H:List Hg} {N0:List Nd} {j:Nat} {c:Hg}
theorem split_at {α:Type} {L:List α} {j:Nat} {c:α} (h:L[j]?=some c):L=L.take j++c::L.drop (j+1):=by
 obtain ⟨h1,h2⟩:=List.getElem?_eq_some_iff.1 h
 rw [← h2,List.getElem_cons_drop,List.take_append_drop]
theorem InvB.sub (h:InvB I0 R H) (hc:c∈H):c.2.Sublist R:=by
 rw [← h.cat]
 obtain ⟨A,B,rfl⟩:=List.append_of_mem hc
 rw [List.flatMap_append,List.flatMap_cons]
 exact (List.sublist_append_left _ _).trans (List.sublist_append_right _ _)
theorem InvB.tbl (h:InvB I0 R H) (hR:TblOk R) (hc:c∈H):TblOk c.2 :=
 ⟨hR.1.sublist (h.sub hc),fun r hr=>hR.2.1 r ((h.sub hc).subset hr),Nat.le_trans (h.sub hc).length_le hR.2.2⟩
theorem InvB.lo0 (h:InvB I0 R H) (hc:H[0]?=some c):c.1.key=⟨#[]⟩:=by
 obtain ⟨d,H',rfl,hd⟩:=h.fst
 simp only [List.getElem?_cons_zero,Option.some.injEq] at hc
 rw [← hc]
 exact hd
theorem lo_at (h:InvB I0 R H) (hc:H[j]?=some c):loI (H.map Prod.fst) j=c.1.key:=by
 unfold loI
 split
 ·rename_i hj
  subst hj
  exact (h.lo0 hc).symm
 ·rw [List.getElem?_map,hc]
  rfl
theorem hi_none (hn:H[j+1]?=none):hiI (H.map Prod.fst) j=(⟨#[]⟩,true):=by
 unfold hiI
 rw [List.getElem?_map,hn]
 rfl
theorem hi_some {d:Hg} (hn:H[j+1]?=some d):hiI (H.map Prod.fst) j=(d.1.key,false):=by
 unfold hiI
 rw [List.getElem?_map,hn]
 rfl
theorem InvB.next {d:Hg} (h:InvB I0 R H) (hc:H[j]?=some c) (hd:H[j+1]?=some d):ltB c.1.key d.1.key:=by
 have:=List.pairwise_iff_getElem.1 h.nodes j (j+1) (by rw [List.length_map];exact (List.getElem?_eq_some_iff.1 hc).1) (by rw [List.length_map];exact (List.getElem?_eq_some_iff.1 hd).1) (by omega)
 rw [List.getElem_map,List.getElem_map,(List.getElem?_eq_some_iff.1 hc).2,(List.getElem?_eq_some_iff.1 hd).2] at this
 exact this
theorem empty_size:(⟨#[]⟩:ByteArray).size=0:=rfl
theorem InvB.rg (h:InvB I0 R H) (hc:H[j]?=some c):RgOk (loI (H.map Prod.fst) j) (hiI (H.map Prod.fst) j).1 (hiI (H.map Prod.fst) j).2:=by
 rw [lo_at h hc]
 have hk:=h.siz c (List.mem_of_getElem? hc)
 cases hd:H[j+1]? with
 | none =>
  rw [hi_none hd]
  exact ⟨hk,by show (⟨#[]⟩:ByteArray).size≤64;rw [empty_size];omega,fun _=>rfl,fun e=>by cases e⟩
 | some d =>
  rw [hi_some hd]
  refine ⟨hk,h.siz d (List.mem_of_getElem? hd),?_,fun _=>h.next hc hd⟩
  intro e
  cases e
theorem InvB.has (h:InvB I0 R H) (hc:H[j]?=some c) {r:Rw} (hr:r∈c.2):hasV (loI (H.map Prod.fst) j) (hiI (H.map Prod.fst) j).1 (hiI (H.map Prod.fst) j).2 r.1=true:=by
 have e:=split_at hc
 have h':=h
 rw [e] at h'
 obtain ⟨h1,h2⟩:=h'.at hr
 rw [lo_at h hc]
 unfold hasV
 have b1:Op.bytesLess r.1.toList c.1.key.toList=false:=by
  cases hb:Op.bytesLess r.1.toList c.1.key.toList with
  | false=>rfl
  | true=>exact absurd hb h1
 rw [b1]
 cases hd:H[j+1]? with
 | none=>rw [hi_none hd];rfl
 | some d =>
  rw [hi_some hd]
  have hm:d∈H.drop (j+1):=by
   have:(H.drop (j+1))[0]?=some d:=by rw [List.getElem?_drop];exact hd
   exact List.mem_of_getElem? this
  have:=h2 d hm
  unfold ltB at this
  simp [this]
theorem InvB.flt (h:InvB I0 R H) (hc:H[j]?=some c):(c.2.filter fun r=>hasV (loI (H.map Prod.fst) j) (hiI (H.map Prod.fst) j).1 (hiI (H.map Prod.fst) j).2 r.1)=c.2:=List.filter_eq_self.2 fun r hr=>h.has hc hr
theorem loads_sum (H:List Hg):(loadsH H).sum=(H.flatMap Prod.snd).length:=by
 unfold loadsH
 rw [List.length_flatMap]
theorem InvB.sum (h:InvB I0 R H) (k:Nat):(loadsH (H.take k)).sum≤R.length:=by
 rw [loads_sum,← h.cat]
 have e:H.flatMap Prod.snd=(H.take k).flatMap Prod.snd++(H.drop k).flatMap Prod.snd:=by rw [← List.flatMap_append,List.take_append_drop]
 rw [e,List.length_append]
 omega
end
theorem setMid {α:Type} {X Y:List α} {x x':α} {n:Nat} (h:X.length=n):(X++x::Y).set n x'=X++x'::Y:=by
 subst h
 rw [List.set_append_right _ _ (Nat.le_refl _),Nat.sub_self]
 rfl
theorem one_at {α:Type} {L:List α} {f:Nat} {x:α} (hx:L[f]?=some x):∃ X Y,L=X++x::Y∧X.length=f:=by
 refine ⟨_,_,split_at hx,?_⟩
 have:=(List.getElem?_eq_some_iff.1 hx).1
 rw [List.length_take];omega
theorem two_at {α:Type} {L:List α} {f:Nat} {x y:α} (hx:L[f]?=some x) (hy:L[f+1]?=some y):∃ X Y,L=X++x::y::Y∧X.length=f:=by
 obtain ⟨X,Y,rfl,h⟩:=one_at hx
 subst h
 rw [List.getElem?_append_right (by omega),show X.length+1-X.length=1 by omega] at hy
 cases Y with
 | nil=>simp at hy
 | cons y' Y=>simp at hy;subst hy;exact ⟨X,Y,rfl,rfl⟩
def iwH (c:Hg):Int×Nat:=iwN c.1
def SameBut (i:Int) (H H':List Hg):Prop:=(H'.map iwH).filter (fun p=>!decide (p.1=i))=(H.map iwH).filter (fun p=>!decide (p.1=i))
def sqL (c:Hg):Nat:=c.2.length*c.2.length
section
variable {I0:List (Int×Nat)} {R:List Rw} {X Y Z:List Hg} {F T B:Hg} {P Q:List Rw} {r:Rw}
theorem shiftU (hi:InvB I0 R (X++F::T::Y)) (hP:F.2=P++r::Q) (hP0:P≠[]) (hr:r.1.size≤64):InvB I0 R (X++(F.1,P)::({ T.1 with key:=r.1 },r::Q++T.2)::Y):=by
 obtain ⟨n1,A⟩:=F
 obtain ⟨n2,B⟩:=T
 simp only at hP
 subst hP
 have h1:=hi.join (n':=n1) rfl (List.Perm.refl _)
 rw [show (P++r::Q)++B=P++r::(Q++B) by simp] at h1
 exact h1.split (g:=n2) hP0 hr ((List.Perm.of_eq (by simp [iwN])).trans hi.iw)
theorem shiftD (hi:InvB I0 R (X++T::F::Y)) (hP:F.2=P++r::Q) (hP0:P≠[]) (hr:r.1.size≤64):InvB I0 R (X++(T.1,T.2++P)::({ F.1 with key:=r.1 },r::Q)::Y):=by
 obtain ⟨n1,A⟩:=F
 obtain ⟨n2,B⟩:=T
 simp only at hP
 subst hP
 have h1:=hi.join (n':=n2) rfl (List.Perm.refl _)
 rw [show B++(P++r::Q)=(B++P)++r::Q by simp] at h1
 exact h1.split (g:=n1) (by simp [hP0]) hr ((List.Perm.of_eq (by simp [iwN])).trans hi.iw)
theorem pot_hg (H:List Hg):potB (loadsH H)=(H.map sqL).sum:=by unfold potB loadsH;rw [List.map_map];rfl
theorem moveU1 (hi:InvB I0 R (X++F::T::(Y++B::Z))) (hP:B.2=P++r::Q) (hP0:P≠[]) (hr:r.1.size≤64) :
  InvB I0 R (X++({ T.1 with key:=F.1.key },F.2++T.2)::(Y++(B.1,P)::({ F.1 with key:=r.1 },r::Q)::Z)):=by
 obtain ⟨n1,A⟩:=F
 obtain ⟨n2,C⟩:=T
 obtain ⟨n3,D⟩:=B
 simp only at hP
 subst hP
 have h1:=hi.join (n':={ n2 with key:=n1.key }) rfl (List.Perm.refl _)
 rw [show X++({ n2 with key:=n1.key },A++C)::(Y++(n3,P++r::Q)::Z)=(X++({ n2 with key:=n1.key },A++C)::Y)++(n3,P++r::Q)::Z by simp] at h1
 have h2:=h1.split (g:=n1) hP0 hr (J:=I0) (by
  refine List.Perm.trans ?_ hi.iw
  simp only [List.map_append,List.map_cons,iwN,List.append_assoc,List.cons_append]
  refine List.Perm.append_left _ ?_
  refine ((List.Perm.cons _ ((List.Perm.append_left _ (List.Perm.swap _ _ _)).trans List.perm_middle)).trans (List.Perm.swap _ _ _)))
 simpa using h2
theorem moveD1 (hi:InvB I0 R (X++T::F::(Y++B::Z))) (hP:B.2=P++r::Q) (hP0:P≠[]) (hr:r.1.size≤64) :
  InvB I0 R (X++(T.1,T.2++F.2)::(Y++(B.1,P)::({ F.1 with key:=r.1 },r::Q)::Z)):=by
 obtain ⟨n1,A⟩:=F
 obtain ⟨n2,C⟩:=T
 obtain ⟨n3,D⟩:=B
 simp only at hP
 subst hP
 have h1:=hi.join (n':=n2) rfl (List.Perm.refl _)
 rw [show X++(n2,C++A)::(Y++(n3,P++r::Q)::Z)=(X++(n2,C++A)::Y)++(n3,P++r::Q)::Z by simp] at h1
 have h2:=h1.split (g:=n1) hP0 hr (J:=I0) (by
  refine List.Perm.trans ?_ hi.iw
  simp only [List.map_append,List.map_cons,iwN,List.append_assoc,List.cons_append]
  refine List.Perm.append_left _ ?_
  exact List.Perm.cons _ ((List.Perm.append_left _ (List.Perm.swap _ _ _)).trans List.perm_middle))
 simpa using h2
theorem moveU2 (hi:InvB I0 R (X++B::(Y++F::T::Z))) (hP:B.2=P++r::Q) (hP0:P≠[]) (hr:r.1.size≤64) :
  InvB I0 R (X++(B.1,P)::({ F.1 with key:=r.1 },r::Q)::(Y++({ T.1 with key:=F.1.key },F.2++T.2)::Z)):=by
 obtain ⟨n1,A⟩:=F
 obtain ⟨n2,C⟩:=T
 obtain ⟨n3,D⟩:=B
 simp only at hP
 subst hP
 rw [show X++(n3,P++r::Q)::(Y++(n1,A)::(n2,C)::Z)=(X++(n3,P++r::Q)::Y)++(n1,A)::(n2,C)::Z by simp] at hi
 have h1:=hi.join (n':={ n2 with key:=n1.key }) rfl (List.Perm.refl _)
 rw [show (X++(n3,P++r::Q)::Y)++({ n2 with key:=n1.key },A++C)::Z=X++(n3,P++r::Q)::(Y++({ n2 with key:=n1.key },A++C)::Z) by simp] at h1
 exact h1.split (g:=n1) hP0 hr (J:=I0) (by
  refine List.Perm.trans ?_ hi.iw
  simp only [List.map_append,List.map_cons,iwN,List.append_assoc,List.cons_append]
  exact List.Perm.append_left _ (List.Perm.cons _ List.perm_middle.symm))
theorem moveD2 (hi:InvB I0 R (X++B::(Y++T::F::Z))) (hP:B.2=P++r::Q) (hP0:P≠[]) (hr:r.1.size≤64) :
  InvB I0 R (X++(B.1,P)::({ F.1 with key:=r.1 },r::Q)::(Y++(T.1,T.2++F.2)::Z)):=by
 obtain ⟨n1,A⟩:=F
 obtain ⟨n2,C⟩:=T
 obtain ⟨n3,D⟩:=B
 simp only at hP
 subst hP
 rw [show X++(n3,P++r::Q)::(Y++(n2,C)::(n1,A)::Z)=(X++(n3,P++r::Q)::Y)++(n2,C)::(n1,A)::Z by simp] at hi
 have h1:=hi.join (n':=n2) rfl (List.Perm.refl _)
 rw [show (X++(n3,P++r::Q)::Y)++(n2,C++A)::Z=X++(n3,P++r::Q)::(Y++(n2,C++A)::Z) by simp] at h1
 exact h1.split (g:=n1) hP0 hr (J:=I0) (by
  refine List.Perm.trans ?_ hi.iw
  simp only [List.map_append,List.map_cons,iwN,List.append_assoc,List.cons_append]
  exact List.Perm.append_left _ (List.Perm.cons _ (List.perm_middle.symm.trans (List.Perm.append_left _ (List.Perm.swap _ _ _)))))
end
def outF (f b:Nat) (nd:Hg):List Hg→Nat→List Hg
 | [],_=>[]
 | c::l,i=>(if i=f then [] else [c])++((if i=b then [nd] else [])++outF f b nd l (i+1))
section
variable {f b:Nat} {nd:Hg}
theorem outF_cons (c:Hg) (l:List Hg) (i:Nat):outF f b nd (c::l) i=(if i=f then [] else [c])++((if i=b then [nd] else [])++outF f b nd l (i+1)):=rfl
theorem outF_app:∀ (X Y:List Hg) (i:Nat),outF f b nd (X++Y) i=outF f b nd X i++outF f b nd Y (i+X.length)
 | [],Y,i=>by simp [outF]
 | c::X,Y,i=>by
  rw [List.cons_append,outF_cons,outF_cons,outF_app X Y (i+1)]
  simp only [List.append_assoc,List.length_cons]
  rw [show i+1+X.length=i+(X.length+1) by omega]
theorem outF_id:∀ (X:List Hg) (i:Nat),(f<i∨i+X.length≤f)→(b<i∨i+X.length≤b)→outF f b nd X i=X
 | [],i,_,_=>rfl
 | c::X,i,h1,h2=>by
  rw [List.length_cons] at h1 h2
  rw [outF_cons,if_neg (by omega),if_neg (by omega),outF_id X (i+1) (by omega) (by omega)]
  rfl
theorem outF_take {l:List Hg} {k:Nat} {c:Hg} (h:l[k]?=some c):outF f b nd (l.take (k+1)) 0=outF f b nd (l.take k) 0++((if k=f then [] else [c])++(if k=b then [nd] else [])):=by
 have hl:=(List.getElem?_eq_some_iff.1 h).1
 rw [List.take_add_one,h,Option.toList_some,outF_app,outF_cons,List.length_take,Nat.zero_add,Nat.min_eq_left (by omega)]
 simp [outF]
end
structure Moved (I0:List (Int×Nat)) (R:List Rw) (H res:List Hg) (F T B:Hg) (P Q:List Rw):Prop where
 inv:InvB I0 R res
 but:SameBut F.1.id H res
 len:res.length=H.length
 pot:potB (loadsH res)+(sqL F+sqL T+sqL B)=potB (loadsH H)+((T.2.length+F.2.length)*(T.2.length+F.2.length)+P.length*P.length+(Q.length+1)*(Q.length+1))
set_option maxHeartbeats 2000000 in
theorem move_up {I0:List (Int×Nat)} {R:List Rw} {H:List Hg} (hi:InvB I0 R H) {f b:Nat} {F T B:Hg} {P Q:List Rw} {r:Rw} (hF:H[f]?=some F) (hT:H[f+1]?=some T) (hB:H[b]?=some B) (hbf:b≠f) (hbt:b≠f+1) (hP:B.2=P++r::Q) (hP0:P≠[]) (hr:r.1.size≤64) :
  Moved I0 R H (outF f b ({ F.1 with key:=r.1 },r::Q) ((H.set (f+1) ({ T.1 with key:=F.1.key },F.2++T.2)).set b (B.1,P)) 0) F T B P Q:=by
 obtain ⟨X,Y,rfl,hX⟩:=two_at hF hT
 subst hX
 rcases Nat.lt_or_ge b X.length with h1 | h1
 ·rw [List.getElem?_append_left h1] at hB
  obtain ⟨X1,X2,rfl,hX1⟩:=one_at hB
  subst hX1
  have e1:((X1++B::X2)++F::T::Y).set ((X1++B::X2).length+1) ({ T.1 with key:=F.1.key },F.2++T.2)=X1++B::(X2++F::({ T.1 with key:=F.1.key },F.2++T.2)::Y):=by
   rw [show (X1++B::X2)++F::T::Y=(X1++B::X2++[F])++T::Y by simp,setMid (by simp<;>omega)]
   simp
  rw [e1,setMid rfl]
  have e2:outF (X1++B::X2).length X1.length ({ F.1 with key:=r.1 },r::Q) (X1++(B.1,P)::(X2++F::({ T.1 with key:=F.1.key },F.2++T.2)::Y)) 0=X1++(B.1,P)::({ F.1 with key:=r.1 },r::Q)::(X2++({ T.1 with key:=F.1.key },F.2++T.2)::Y):=by
   rw [outF_app,outF_id _ _ (by right;simp) (by right;simp),outF_cons,if_neg (by simp<;>omega),if_pos (by simp<;>omega),outF_app,outF_id _ _ (by right;simp<;>omega) (by left;omega),outF_cons,if_pos (by simp<;>omega),if_neg (by omega),outF_cons,if_neg (by simp<;>omega),if_neg (by omega),outF_id _ _ (by left;simp<;>omega) (by left;omega)]
   simp
  rw [e2]
  rw [List.append_assoc,List.cons_append] at hi
  refine ⟨moveU2 hi hP hP0 hr,?_,?_,?_⟩
  ·unfold SameBut;simp [iwH,iwN,List.filter_cons]
  ·simp<;>omega
  ·rw [pot_hg,pot_hg]
   simp only [List.map_append,List.map_cons,List.sum_append,List.sum_cons,sqL,List.length_append,List.length_cons,Nat.add_comm F.2.length T.2.length]
   omega
 ·have h2:X.length+2≤b:=by omega
  obtain ⟨d,rfl⟩:∃ d,b=X.length+2+d:=⟨b-(X.length+2),by omega⟩
  rw [show X++F::T::Y=(X++[F,T])++Y by simp,List.getElem?_append_right (by simp<;>omega),show X.length+2+d-(X++[F,T]).length=d by simp<;>omega] at hB
  obtain ⟨Y1,Y2,rfl,hY1⟩:=one_at hB
  subst hY1
  have e1:(X++F::T::(Y1++B::Y2)).set (X.length+1) ({ T.1 with key:=F.1.key },F.2++T.2)=(X++F::({ T.1 with key:=F.1.key },F.2++T.2)::Y1)++B::Y2:=by
   rw [show X++F::T::(Y1++B::Y2)=(X++[F])++T::(Y1++B::Y2) by simp,setMid (by simp<;>omega)]
   simp
  rw [e1,setMid (by simp<;>omega)]
  have e2:outF X.length (X.length+2+Y1.length) ({ F.1 with key:=r.1 },r::Q) ((X++F::({ T.1 with key:=F.1.key },F.2++T.2)::Y1)++(B.1,P)::Y2) 0=X++({ T.1 with key:=F.1.key },F.2++T.2)::(Y1++(B.1,P)::({ F.1 with key:=r.1 },r::Q)::Y2):=by
   rw [outF_app,outF_app,outF_id X _ (by right;simp) (by right;simp<;>omega),outF_cons,if_pos (by simp<;>omega),if_neg (by omega),outF_cons,if_neg (by omega),if_neg (by omega),outF_id Y1 _ (by left;omega) (by right;omega),outF_cons,if_neg (by simp<;>omega),if_pos (by simp<;>omega),outF_id Y2 _ (by left;simp<;>omega) (by left;simp<;>omega)]
   simp
  rw [e2]
  refine ⟨moveU1 hi hP hP0 hr,?_,?_,?_⟩
  ·unfold SameBut;simp [iwH,iwN,List.filter_cons]
  ·simp<;>omega
  ·rw [pot_hg,pot_hg]
   simp only [List.map_append,List.map_cons,List.sum_append,List.sum_cons,sqL,List.length_append,List.length_cons,Nat.add_comm F.2.length T.2.length]
   omega
set_option maxHeartbeats 2000000 in
theorem move_dn {I0:List (Int×Nat)} {R:List Rw} {H:List Hg} (hi:InvB I0 R H) {t b:Nat} {F T B:Hg} {P Q:List Rw} {r:Rw} (hF:H[t+1]?=some F) (hT:H[t]?=some T) (hB:H[b]?=some B) (hbf:b≠t+1) (hbt:b≠t) (hP:B.2=P++r::Q) (hP0:P≠[]) (hr:r.1.size≤64) :
  Moved I0 R H (outF (t+1) b ({ F.1 with key:=r.1 },r::Q) ((H.set t (T.1,T.2++F.2)).set b (B.1,P)) 0) F T B P Q:=by
 obtain ⟨X,Y,rfl,hX⟩:=two_at hT hF
 subst hX
 rcases Nat.lt_or_ge b X.length with h1 | h1
 ·rw [List.getElem?_append_left h1] at hB
  obtain ⟨X1,X2,rfl,hX1⟩:=one_at hB
  subst hX1
  have e1:((X1++B::X2)++T::F::Y).set (X1++B::X2).length (T.1,T.2++F.2)=X1++B::(X2++(T.1,T.2++F.2)::F::Y):=by
   rw [setMid rfl]
   simp
  rw [e1,setMid rfl]
  have e2:outF ((X1++B::X2).length+1) X1.length ({ F.1 with key:=r.1 },r::Q) (X1++(B.1,P)::(X2++(T.1,T.2++F.2)::F::Y)) 0=X1++(B.1,P)::({ F.1 with key:=r.1 },r::Q)::(X2++(T.1,T.2++F.2)::Y):=by
   rw [outF_app,outF_id _ _ (by right;simp<;>omega) (by right;simp),outF_cons,if_neg (by simp<;>omega),if_pos (by simp<;>omega),outF_app,outF_id _ _ (by right;simp<;>omega) (by left;omega),outF_cons,if_neg (by simp<;>omega),if_neg (by omega),outF_cons,if_pos (by simp<;>omega),if_neg (by omega),outF_id _ _ (by left;simp<;>omega) (by left;omega)]
   simp
  rw [e2]
  rw [List.append_assoc,List.cons_append] at hi
  refine ⟨moveD2 hi hP hP0 hr,?_,?_,?_⟩
  ·unfold SameBut;simp [iwH,iwN,List.filter_cons]
  ·simp<;>omega
  ·rw [pot_hg,pot_hg]
   simp only [List.map_append,List.map_cons,List.sum_append,List.sum_cons,sqL,List.length_append,List.length_cons]
   omega
 ·have h2:X.length+2≤b:=by omega
  obtain ⟨d,rfl⟩:∃ d,b=X.length+2+d:=⟨b-(X.length+2),by omega⟩
  rw [show X++T::F::Y=(X++[T,F])++Y by simp,List.getElem?_append_right (by simp<;>omega),show X.length+2+d-(X++[T,F]).length=d by simp<;>omega] at hB
  obtain ⟨Y1,Y2,rfl,hY1⟩:=one_at hB
  subst hY1
  have e1:(X++T::F::(Y1++B::Y2)).set X.length (T.1,T.2++F.2)=(X++(T.1,T.2++F.2)::F::Y1)++B::Y2:=by
   rw [setMid rfl]
   simp
  rw [e1,setMid (by simp<;>omega)]
  have e2:outF (X.length+1) (X.length+2+Y1.length) ({ F.1 with key:=r.1 },r::Q) ((X++(T.1,T.2++F.2)::F::Y1)++(B.1,P)::Y2) 0=X++(T.1,T.2++F.2)::(Y1++(B.1,P)::({ F.1 with key:=r.1 },r::Q)::Y2):=by
   rw [outF_app,outF_app,outF_id X _ (by right;simp) (by right;simp<;>omega),outF_cons,if_neg (by omega),if_neg (by omega),outF_cons,if_pos (by omega),if_neg (by omega),outF_id Y1 _ (by left;omega) (by right;omega),outF_cons,if_neg (by simp<;>omega),if_pos (by simp<;>omega),outF_id Y2 _ (by left;simp<;>omega) (by left;simp<;>omega)]
   simp
  rw [e2]
  refine ⟨moveD1 hi hP hP0 hr,?_,?_,?_⟩
  ·unfold SameBut;simp [iwH,iwN,List.filter_cons]
  ·simp<;>omega
  ·rw [pot_hg,pot_hg]
   simp only [List.map_append,List.map_cons,List.sum_append,List.sum_cons,sqL,List.length_append,List.length_cons]
   omega
structure Shifted (I0:List (Int×Nat)) (R:List Rw) (H res:List Hg) (F T:Hg) (m k:Nat):Prop where
 inv:InvB I0 R res
 iws:res.map iwH=H.map iwH
 pot:potB (loadsH res)+(sqL F+sqL T)=potB (loadsH H)+(m*m+k*k)
theorem shift_upL {I0:List (Int×Nat)} {R:List Rw} {H:List Hg} (hi:InvB I0 R H) {f:Nat} {F T:Hg} {P Q:List Rw} {r:Rw} (hF:H[f]?=some F) (hT:H[f+1]?=some T) (hP:F.2=P++r::Q) (hP0:P≠[]) (hr:r.1.size≤64) :
  Shifted I0 R H ((H.set f (F.1,P)).set (f+1) ({ T.1 with key:=r.1 },r::Q++T.2)) F T P.length (T.2.length+(Q.length+1)):=by
 obtain ⟨X,Y,rfl,hX⟩:=two_at hF hT
 subst hX
 rw [setMid rfl,show X++(F.1,P)::T::Y=(X++[(F.1,P)])++T::Y by simp,setMid (by simp<;>omega),List.append_assoc]
 refine ⟨shiftU hi hP hP0 hr,?_,?_⟩
 ·simp [iwH,iwN]
 ·rw [pot_hg,pot_hg]
  simp only [List.map_append,List.map_cons,List.sum_append,List.sum_cons,sqL,List.length_append,List.length_cons,List.nil_append,List.cons_append,List.map_nil,List.sum_nil,Nat.add_comm (Q.length+1) T.2.length,show Q.length+T.2.length+1=T.2.length+(Q.length+1) by omega]
  omega
theorem shift_dnL {I0:List (Int×Nat)} {R:List Rw} {H:List Hg} (hi:InvB I0 R H) {t:Nat} {F T:Hg} {P Q:List Rw} {r:Rw} (hF:H[t+1]?=some F) (hT:H[t]?=some T) (hP:F.2=P++r::Q) (hP0:P≠[]) (hr:r.1.size≤64) :
  Shifted I0 R H ((H.set t (T.1,T.2++P)).set (t+1) ({ F.1 with key:=r.1 },r::Q)) F T (Q.length+1) (T.2.length+P.length):=by
 obtain ⟨X,Y,rfl,hX⟩:=two_at hT hF
 subst hX
 rw [setMid rfl,show X++(T.1,T.2++P)::F::Y=(X++[(T.1,T.2++P)])++F::Y by simp,setMid (by simp<;>omega),List.append_assoc]
 refine ⟨shiftD hi hP hP0 hr,?_,?_⟩
 ·simp [iwH,iwN]
 ·rw [pot_hg,pot_hg]
  simp only [List.map_append,List.map_cons,List.sum_append,List.sum_cons,sqL,List.length_append,List.length_cons,List.nil_append,List.map_nil,List.sum_nil]
  omega
def mkK (i:Nat):ByteArray:=⟨#[48,48,UInt8.ofNat (48+i / 10),UInt8.ofNat (48+i % 10)]⟩
def nxS:List Nd→ByteArray×Bool
 | []=>(⟨#[]⟩,true)
 | y::_=>(y.key,false)
def segF:List Nd→List Rw→List Hg
 | [],_=>[]
 | x::N,R=>(x,R.filter fun r=>hasV x.key (nxS N).1 (nxS N).2 r.1)::segF N R
theorem seg_fst:∀ (N:List Nd) (R:List Rw),(segF N R).map Prod.fst=N
 | [],_=>rfl
 | x::N,R=>by unfold segF;rw [List.map_cons,seg_fst N R]
theorem seg_len (N:List Nd) (R:List Rw):(segF N R).length=N.length:=by have:=congrArg List.length (seg_fst N R);simpa using this
theorem seg_at:∀ (N:List Nd) (R:List Rw) (i:Nat) (x:Nd),N[i]?=some x→(segF N R)[i]?=some (x,R.filter fun r=>hasV x.key (hiI N i).1 (hiI N i).2 r.1)
 | [],_,_,_,h=>by simp at h
 | y::N,R,0,x,h=>by
  simp at h
  subst h
  unfold segF
  have e:hiI (y::N) 0=nxS N:=by unfold hiI;cases N<;>rfl
  rw [e]
  rfl
 | y::N,R,i+1,x,h=>by
  have e:hiI (y::N) (i+1)=hiI N i:=by unfold hiI;rfl
  rw [e]
  exact seg_at N R i x (by simpa using h)
theorem has_iff {lo hi k:ByteArray} {top:Bool}:hasV lo hi top k=true↔¬ ltB k lo∧(top=true∨ltB k hi):=by
 unfold hasV ltB
 simp
theorem filt_cut {x y:ByteArray} (hxy:ltB x y):∀ {R:List Rw},R.Pairwise (fun a b=>ltB a.1 b.1)→R.filter (fun r=>hasV x y false r.1)++R.filter (fun r=>hasV y ⟨#[]⟩ true r.1)=R.filter (fun r=>hasV x ⟨#[]⟩ true r.1)
 | [],_=>rfl
 | r::R,h=>by
  obtain ⟨h1,h2⟩:=List.pairwise_cons.1 h
  have ih:=filt_cut hxy h2
  by_cases hry:ltB r.1 y
  ·have e2:hasV y ⟨#[]⟩ true r.1=false:=by
    rw [← Bool.not_eq_true,has_iff];exact fun hh=>hh.1 hry
   by_cases hrx:ltB r.1 x
   ·have e1:hasV x y false r.1=false:=by rw [← Bool.not_eq_true,has_iff];exact fun hh=>hh.1 hrx
    have e3:hasV x ⟨#[]⟩ true r.1=false:=by rw [← Bool.not_eq_true,has_iff];exact fun hh=>hh.1 hrx
    simp only [List.filter_cons,e1,e2,e3,Bool.false_eq_true,if_false]
    exact ih
   ·have e1:hasV x y false r.1=true:=has_iff.2 ⟨hrx,.inr hry⟩
    have e3:hasV x ⟨#[]⟩ true r.1=true:=has_iff.2 ⟨hrx,.inl rfl⟩
    simp only [List.filter_cons,e1,e2,e3,Bool.false_eq_true,if_false,if_true,List.cons_append]
    rw [ih]
  ·have all:∀ q∈r::R,¬ ltB q.1 y:=fun q hq=>by
    rcases List.mem_cons.1 hq with rfl | hq
    ·exact hry
    ·exact fun hh=>hry ((h1 q hq).trans hh)
   have f1:(r::R).filter (fun r=>hasV x y false r.1)=[]:=by
    rw [List.filter_eq_nil_iff]
    intro q hq hh
    rcases (has_iff.1 hh).2 with h3 | h3
    ·cases h3
    ·exact all q hq h3
   have f2:(r::R).filter (fun r=>hasV y ⟨#[]⟩ true r.1)=r::R:=List.filter_eq_self.2 fun q hq=>has_iff.2 ⟨all q hq,.inl rfl⟩
   have f3:(r::R).filter (fun r=>hasV x ⟨#[]⟩ true r.1)=r::R:=List.filter_eq_self.2 fun q hq=>has_iff.2 ⟨fun hh=>all q hq (hh.trans hxy),.inl rfl⟩
   rw [f1,f2,f3,List.nil_append]
theorem seg_cat:∀ {N:List Nd} {x:Nd} {R:List Rw},(x::N).Pairwise (fun a b=>ltB a.key b.key)→R.Pairwise (fun a b=>ltB a.1 b.1)→(segF (x::N) R).flatMap Prod.snd=R.filter fun r=>hasV x.key ⟨#[]⟩ true r.1
 | [],x,R,_,_=>by simp [segF,nxS]
 | y::N,x,R,h,hR=>by
  obtain ⟨h1,h2⟩:=List.pairwise_cons.1 h
  show (R.filter fun r=>hasV x.key y.key false r.1)++(segF (y::N) R).flatMap Prod.snd=_
  rw [seg_cat h2 hR]
  exact filt_cut (h1 y (by simp)) hR
theorem seg_seq:∀ {N:List Nd} {R:List Rw},N.Pairwise (fun a b=>ltB a.key b.key)→R.Pairwise (fun a b=>ltB a.1 b.1)→(seqH (segF N R)).Pairwise relI∧∀ x N',N=x::N'→∀ e∈seqH (segF N R),¬ ltB e.1 x.key
 | [],_,_,_=>⟨List.Pairwise.nil,fun x N' h=>by cases h⟩
 | x::N,R,h,hR=>by
  obtain ⟨h1,h2⟩:=List.pairwise_cons.1 h
  obtain ⟨i1,i2⟩:=seg_seq h2 hR
  have rows:∀ r∈R.filter (fun r=>hasV x.key (nxS N).1 (nxS N).2 r.1),¬ ltB r.1 x.key∧∀ y N',N=y::N'→ltB r.1 y.key:=fun r hr=>by
   have hh:=has_iff.1 (List.mem_filter.1 hr).2
   refine ⟨hh.1,fun y N' e=>?_⟩
   subst e
   rcases hh.2 with h3 | h3
   ·cases h3
   ·exact h3
  have tl:∀ e∈seqH (segF N R),∃ y N',N=y::N'∧¬ ltB e.1 y.key:=fun e he=>by
   cases N with
   | nil=>simp [segF,seqH] at he
   | cons y N'=>exact ⟨y,N',rfl,i2 y N' rfl e he⟩
  have S:seqH (segF (x::N) R)=((x.key,true)::(R.filter (fun r=>hasV x.key (nxS N).1 (nxS N).2 r.1)).map fun r=>(r.1,false))++seqH (segF N R):=by
   show seqH (_::segF N R)=_
   rw [seq_cons]
  rw [S]
  refine ⟨List.pairwise_append.2 ⟨List.pairwise_cons.2 ⟨fun b hb=>?_,?_⟩,i1,fun a ha b hb=>?_⟩,fun z N' e b hb=>?_⟩
  ·obtain ⟨r,hr,rfl⟩:=List.mem_map.1 hb
   exact (rows r hr).1
  ·rw [List.pairwise_map]
   refine List.Pairwise.imp ?_ (hR.sublist List.filter_sublist)
   intro a b hab
   exact hab
  ·obtain ⟨y,N',rfl,hby⟩:=tl b hb
   have hay:ltB a.1 y.key:=by
    rcases List.mem_cons.1 ha with rfl | ha
    ·exact h1 y (by simp)
    ·obtain ⟨r,hr,rfl⟩:=List.mem_map.1 ha
     exact (rows r hr).2 y N' rfl
   have hab:ltB a.1 b.1:=by
    rcases bl_tri a.1.toList b.1.toList with ⟨g,_,_⟩ | ⟨g,_,_⟩ | ⟨g,_,_⟩
    ·exact g
    ·exact absurd (show ltB b.1 y.key from by unfold ltB;rw [← g];exact hay) hby
    ·exact absurd (ltB.trans (show ltB b.1 a.1 from g) hay) hby
   unfold relI
   split
   ·exact hab
   ·split
    ·exact hab.asymm
    ·exact hab
  ·cases e
   rcases List.mem_append.1 hb with hb | hb
   ·rcases List.mem_cons.1 hb with rfl | hb
    ·exact ltB.irrefl _
    ·obtain ⟨r,hr,rfl⟩:=List.mem_map.1 hb
     exact (rows r hr).1
   ·obtain ⟨y,N'',rfl,hby⟩:=tl b hb
    exact fun hh=>hby (hh.trans (h1 y (by simp)))
theorem seg_inv {L:List Nd} {x:Nd} {N:List Nd} {R:List Rw} (hN:(x::N).Pairwise (fun a b=>ltB a.key b.key)) (hx:x.key=⟨#[]⟩) (hR:TblOk R) (hI:((x::N).map iwN).Perm (L.map iwN)) (hz:∀ y∈x::N,y.key.size≤64):InvB (L.map iwN) R (segF (x::N) R):=by
 refine ⟨(seg_seq hN hR.1).1,?_,?_,⟨_,_,rfl,hx⟩,fun c hc=>?_⟩
 ·rw [seg_cat hN hR.1,List.filter_eq_self]
  intro r hr
  refine has_iff.2 ⟨fun hh=>?_,.inl rfl⟩
  rw [hx] at hh
  unfold ltB at hh
  rw [show (⟨#[]⟩:ByteArray).toList=[] from by rw [ByteArray.toList_eq],less_nil] at hh
  cases hh
 ·have e:(segF (x::N) R).map (fun c=>iwN c.1)=(x::N).map iwN:=by rw [← seg_fst (x::N) R,List.map_map,seg_fst];rfl
  rw [e]
  exact hI
 ·have:c.1∈(segF (x::N) R).map Prod.fst:=List.mem_map.2 ⟨c,hc,rfl⟩
  rw [seg_fst] at this
  exact hz _ this
theorem gB_ld {H:List Hg} {i:Nat} {c:Hg} (h:H[i]?=some c):gB (loadsH H) i=c.2.length:=by unfold gB loadsH;rw [List.getElem?_map,h];rfl
theorem loads_len (H:List Hg):(loadsH H).length=H.length:=by unfold loadsH;rw [List.length_map]
theorem step_cases {l:List Nat} {s:Nat×Nat×Nat×Nat×Nat} (h:stepBl l=some s) :
  (∃ i c,i+1<l.length∧s=(1,i,i+1,0,c)∧gB l (i+1)+5≤gB l i∧c=(gB l i-gB l (i+1)) / 2) ∨
  (∃ i c,i+1<l.length∧s=(1,i+1,i,0,c)∧gB l i+5≤gB l (i+1)∧c=(gB l (i+1)-gB l i) / 2) ∨
  (∃ f t b c,s=(2,f,t,b,c)∧f<l.length∧t<l.length∧b<l.length∧(f+1=t∨t+1=f)∧b≠f∧b≠t∧c=gB l b / 2∧4*(gB l f+gB l t)+8<gB l b):=by
 unfold stepBl at h
 cases hs:shiftI l with
 | some i =>
  rw [hs] at h
  simp only [Option.some.injEq] at h
  obtain ⟨h1,h2⟩:=shiftI_some hs
  by_cases hlt:gB l i<gB l (i+1)
  ·rw [if_pos hlt,if_pos hlt,Nat.max_eq_right (by omega),Nat.min_eq_left (by omega)] at h
   rw [Nat.max_eq_right (by omega),Nat.min_eq_left (by omega)] at h2
   exact .inr (.inl ⟨i,_,h1,h.symm,by omega,rfl⟩)
  ·rw [if_neg hlt,if_neg hlt,Nat.max_eq_left (by omega),Nat.min_eq_right (by omega)] at h
   rw [Nat.max_eq_left (by omega),Nat.min_eq_right (by omega)] at h2
   exact .inl ⟨i,_,h1,h.symm,by omega,rfl⟩
 | none =>
  rw [hs] at h
  simp only at h
  split at h
  ·cases h
  ·rename_i h3
   split at h
   ·cases h
   ·rename_i hm
    simp only [Option.some.injEq] at h
    obtain ⟨f1,f2,f3,f4,f5,f6⟩:=move_facts (l:=l) (by omega) hm
    exact .inr (.inr ⟨_,_,_,_,h.symm,f1,f3,f2,by omega,f5,f6,rfl,by omega⟩)
theorem cut_rows {A:List Rw} {p:Nat} (hp:0<p) (hpl:p<A.length):∃ P Q r,A=P++r::Q∧P≠[]∧P.length=p∧Q.length+1=A.length-p:=by
 refine ⟨A.take p,A.drop (p+1),A[p],?_,?_,?_,?_⟩
 ·rw [List.getElem_cons_drop,List.take_append_drop]
 ·intro h
  have:=congrArg List.length h
  rw [List.length_take,List.length_nil] at this
  omega
 ·rw [List.length_take];omega
 ·rw [List.length_drop];omega
theorem asc_lt {S:List Nd} (h0:checkN S=0) (ha:AscN S):S.Pairwise (fun a b=>ltB a.key b.key):=by
 have hk:=keys_pw (check_keys h0)
 unfold AscN at ha
 rw [List.pairwise_iff_getElem] at hk ha ⊢
 intro i j hi hj hij
 rcases (ltN_no _ _).1 (ha i j hi hj hij) with h | h
 ·exact h
 ·exact absurd h.1.symm (hk i j hi hj hij).1
theorem lt_empty {a b:ByteArray} (h:ltB a b):ltB ⟨#[]⟩ b:=by
 unfold ltB at *
 rw [show (⟨#[]⟩:ByteArray).toList=[] from by rw [ByteArray.toList_eq]]
 rcases bl_tri [] b.toList with ⟨g,_,_⟩ | ⟨g,_,_⟩ | ⟨g,_,_⟩
 ·exact g
 ·rw [← g,less_nil] at h;cases h
 ·rw [less_nil] at g;cases g
theorem first_nodes {x:Nd} {N:List Nd} (h0:checkN (x::N)=0) (ha:AscN (x::N)):(({ x with key:=⟨#[]⟩ }:Nd)::N).Pairwise (fun a b=>ltB a.key b.key):=by
 obtain ⟨h1,h2⟩:=List.pairwise_cons.1 (asc_lt h0 ha)
 exact List.pairwise_cons.2 ⟨fun y hy=>lt_empty (h1 y hy),h2⟩
theorem mkR_lt {i j:Nat} (hij:i<j) (hj:j<60):ltB (mkK i) (mkK j):=by
 unfold ltB mkK
 rw [ByteArray.toList_eq,ByteArray.toList_eq]
 have a1:(UInt8.ofNat (48+i / 10)).toNat=48+i / 10:=by simp;omega
 have a2:(UInt8.ofNat (48+j / 10)).toNat=48+j / 10:=by simp;omega
 have b1:(UInt8.ofNat (48+i % 10)).toNat=48+i % 10:=by simp;omega
 have b2:(UInt8.ofNat (48+j % 10)).toNat=48+j % 10:=by simp;omega
 generalize UInt8.ofNat (48+i / 10)=p at *
 generalize UInt8.ofNat (48+j / 10)=q at *
 generalize UInt8.ofNat (48+i % 10)=u at *
 generalize UInt8.ofNat (48+j % 10)=v at *
 simp only [Op.bytesLess]
 rcases Nat.lt_or_ge (i / 10) (j / 10) with h | h
 ·have hpq:p<q:=UInt8.lt_iff_toNat_lt.2 (by omega)
  simp [hpq]
 ·have hpq:p=q:=UInt8.toNat_inj.1 (by omega)
  have huv:u<v:=UInt8.lt_iff_toNat_lt.2 (by omega)
  simp [hpq,huv]
theorem many_ok {n:Nat} (hn:n≤60) {f:Nat→Rw} (hf:∀ i,f i=(mkK i,⟨#[]⟩)):TblOk ((List.range n).map f):=by
 refine ⟨?_,fun r hr=>?_,by simp;omega⟩
 ·rw [List.pairwise_map]
  refine List.Pairwise.imp_of_mem ?_ List.pairwise_lt_range
  intro a b ha hb hab
  rw [hf,hf]
  exact mkR_lt hab (by have:=List.mem_range.1 hb;omega)
 ·obtain ⟨i,_,rfl⟩:=List.mem_map.1 hr
  rw [hf]
  exact ⟨by show (mkK i).size≤64;unfold mkK;simp [ByteArray.size],by simp [ByteArray.size]⟩
section
variable {L:List Nd} {R:List Rw} {H:List Hg}
theorem InvB.rsz (h:InvB (L.map iwN) R H) (hR:TblOk R) {c:Hg} (hc:c∈H) {P Q:List Rw} {r:Rw} (e:c.2=P++r::Q):r.1.size≤64:=((h.tbl hR hc).2.1 r (by rw [e];simp)).1
theorem InvB.word (h:InvB (L.map iwN) R H) (hw:∀ x∈L,x.word<4294967296):∀ x∈H.map Prod.fst,x.word<4294967296:=fun x hx=>by
 obtain ⟨c,hc,rfl⟩:=List.mem_map.1 hx
 have:=h.iw.subset (List.mem_map.2 ⟨c,hc,rfl⟩)
 obtain ⟨y,hy,e⟩:=List.mem_map.1 this
 have e2:y.word=c.1.word:=congrArg Prod.snd e
 rw [← e2]
 exact hw y hy
theorem shift_links {res:List Hg} (h:InvB (L.map iwN) R H) (h':InvB (L.map iwN) R res) (h0:checkN L=0) (e:res.map iwH=H.map iwH) {m:Nat} (hm:m≤16):(buildN (res.map Prod.fst) (m:Int)).1=(buildN (H.map Prod.fst) (m:Int)).1 :=
 build_iw (h'.check h0) (h.check h0) (h'.sort h0) (h.sort h0) (by rw [List.map_map,List.map_map];exact e) hm
theorem iw_drop (H:List Hg) (id:Int):(dropN (H.map Prod.fst) id).map iwN=(H.map iwH).filter (fun p=>!decide (p.1=id)):=by
 unfold dropN
 induction H with
 | nil=>rfl
 | cons c H ih =>
  rw [List.map_cons,List.map_cons,List.filter_cons,List.filter_cons]
  have e:(!(c.1.id==id))=(!decide ((iwH c).1=id)):=by
   show (!(c.1.id==id))=(!decide (c.1.id=id))
   by_cases hc:c.1.id=id<;>simp [hc]
  rw [e]
  split
  ·rw [List.map_cons,ih];rfl
  ·exact ih
theorem drop_iw {res:List Hg} {id:Int} (e:SameBut id H res):(dropN (res.map Prod.fst) id).map iwN=(dropN (H.map Prod.fst) id).map iwN:=by
 rw [iw_drop,iw_drop]
 exact e
theorem drop_sorted {N:List Nd} (h0:checkN N=0) (hs:sortN N=N) (id:Int):sortN (dropN N id)=dropN N id:=by
 have ha:AscN N:=by rw [← hs];exact sortN_asc N
 exact (sortN_unique (check_keys (drop_check h0 id)) (List.Perm.refl _) (ha.sublist List.filter_sublist)).symm
theorem move_links {res:List Hg} (h:InvB (L.map iwN) R H) (h':InvB (L.map iwN) R res) (h0:checkN L=0) {id:Int} (e:SameBut id H res) {m:Nat} (hm:m≤16) :
  (buildN (dropN (H.map Prod.fst) id) (m:Int)).1=(buildN (dropN (res.map Prod.fst) id) (m:Int)).1 :=
 build_iw (drop_check (h.check h0) id) (drop_check (h'.check h0) id) (drop_sorted (h.check h0) (h.sort h0) id) (drop_sorted (h'.check h0) (h'.sort h0) id) (drop_iw e).symm hm
end
set_option maxRecDepth 100000 in
set_option maxHeartbeats 4000000 in
theorem nodes_m (a:Option Addr) (n c:Nat) (H:List Hg) (w:World) (h:HdL w (a,n,c) H) (hn:n≤1000) :
  Calls Tryz.prog 134 #[.slice a n c] w fun e w'=>∃ v,e=.returned v∧OwnL 3 encN 36 w.heap.size w' v (H.map Prod.fst)∧Ex w w':=by
 have HL:=lH h.len
 have HS:=lH h
 have hHn:H.length=n:=HL.out
 clear h
 go_enter Tryz.func134,Tryz.ntmps134
 go_wp2_with fail
 go_loopw [3,8] (fun o i wr=>MvNoRel H w o i wr) (fun _ i _=>n-(intOf i).toNat)
 case atStart=>exact ⟨0,by omega,rfl,OwnL.nil _ _ _ _ _,Ex.refl _⟩
 case round =>
  obtain ⟨k,hk,rfl,own,kw⟩:=hrel
  obtain ⟨wi,rfl⟩:∃ wi:World,wi=wr:=⟨_,rfl⟩
  have KW:=lH kw
  have OWN:=lH own
  by_cases hkn:k<n
  ·obtain ⟨x,o,a',n',c',d,he,hx,hd,e0,e1,e2,e3,hr⟩:=(HdL.nx HS.out kw).at (show k<H.length by omega)
   simp only at he
   subst he
   have TK:=lH (take_snocH hd)
   have HR:=lH hr
   have zw:=kw.size
   clear hr hd own kw
   have B5:=Blk.new wi [.int .i64 d.1.id,.string d.1.key,.int .u32 d.1.word,.slice a' n' c'] 91
   have kk:=Ex.new wi (.cells #[.int .i64 d.1.id,.string d.1.key,.int .u32 d.1.word,.slice a' n' c'] 91)
   obtain ⟨w1,hw1⟩:∃ w1,w1=wi.alloc (.cells #[.int .i64 d.1.id,.string d.1.key,.int .u32 d.1.word,.slice a' n' c'] 91):=⟨_,rfl⟩
   obtain ⟨g5,hg5⟩:∃ g5,g5=wi.heap.size:=⟨_,rfl⟩
   replace B5:Blk w1 g5 [.int .i64 d.1.id,.string d.1.key,.int .u32 d.1.word,.slice a' n' c'] 91:=by rw [hw1,hg5];exact B5
   rw [← hw1] at kk
   have Hw1:=lH hw1
   have Hg5:=lH hg5
   have K1:=lH (KW.out.nx kk)
   have own1:=OWN.out.nx kk
   have z1:=kk.size
   have HR1:=lH (RowR.mono (RowR.chg HR.out kk (fun _ hx=>hx)) (fun _ hx=>Nat.lt_of_lt_of_le hx kk.size))
   clear kk hw1 hg5
   go_upto_region 5 with fail
   rw [← Hg5.out,← Hw1.out]
   clear Hg5 Hw1
   clear e0 e1 e2 e3
   have b0:=B5.cell 0 _ rfl
   have b1:=B5.cell 1 _ rfl
   have b2:=B5.cell 2 _ rfl
   have k5:=Ex.new w1 (.cells #[.int .i64 d.1.id,.string d.1.key,.int .u32 d.1.word] 36)
   have SX:Sl 3 encN (w1.alloc (.cells #[.int .i64 d.1.id,.string d.1.key,.int .u32 d.1.word] 36)) (some ⟨w1.heap.size,0,none⟩) 1 [d.1]:=Sl.lit _ rfl rfl (fun _=>rfl) rfl
   have own5:=own1.nx k5
   clear own1
   have z5:=k5.size
   go_upto_region 6 with (at_builtin;(refine wpList_append_rd (enc:=encN) _ rfl _ _ 25 rfl w.heap.size 36 (.agg #[.int .i64 0,.string ByteArray.empty,.int .u32 0]) 3 32 Tryz.underlying25 Tryz.infoN rfl (by omega) (by omega) _ _ own5 rfl _ _ 1 1 [d.1] SX (fun h=>by cases h) (fun _=>rfl) (by simp [encN,Value.oneCell']) rfl (by simp;omega) (by omega) (by omega) ?_);intro v7 w7 own7 ch0 ch1)
   have RR:=lH (show MvNoRel H w v7 (.int .i64 ((k:Int)+1)) w7 from ⟨k+1,by omega,by go_num,by rw [TK.out];rw [List.map_append];exact own7,Chg.trans (K1.out.nx k5) ch1⟩)
   clear own7 ch0 ch1 own5 SX k5
   go_wp2_with fail
   exact ⟨RR.out,by simp [intOf];omega⟩
  ·obtain rfl:k=n:=by omega
   rw [List.take_of_length_le (by omega)] at own
   have OW:=lH own
   clear own kw OWN
   go_wp2_with fail
   go_ret
   exact ⟨_,rfl,OW.out,KW.out⟩
set_option maxRecDepth 100000 in
set_option maxHeartbeats 4000000 in
theorem nodesOf_p (a:Option Addr) (n c:Nat) (H:List Hg) (w:World) (h:HdL w (a,n,c) H) (hn:n≤1000) :
  Calls Tryz.prog 48 #[.slice a n c] w fun e w'=>∃ v,e=.returned v∧OwnL 3 encN 36 w.heap.size w' v (H.map Prod.fst)∧Ex w w':=by
 have HL:=lH h.len
 have HS:=lH h
 have hHn:H.length=n:=HL.out
 clear h
 go_enter Tryz.func48,Tryz.ntmps48
 go_wp2_with fail
 go_loopw [3,4] (fun o i wr=>MvNoRel H w o i wr) (fun _ i _=>n-(intOf i).toNat)
 case atStart=>exact ⟨0,by omega,rfl,OwnL.nil _ _ _ _ _,Ex.refl _⟩
 case round =>
  obtain ⟨k,hk,rfl,own,kw⟩:=hrel
  obtain ⟨wi,rfl⟩:∃ wi:World,wi=wr:=⟨_,rfl⟩
  have KW:=lH kw
  have OWN:=lH own
  by_cases hkn:k<n
  ·obtain ⟨x,o,a',n',c',d,he,hx,hd,e0,e1,e2,e3,hr⟩:=(HdL.nx HS.out kw).at (show k<H.length by omega)
   simp only at he
   subst he
   have TK:=lH (take_snocH hd)
   have HR:=lH hr
   have zw:=kw.size
   clear hr hd own kw
   have K1:=lH KW.out
   have own1:=OWN.out
   have k5:=Ex.new wi (.cells #[.int .i64 d.1.id,.string d.1.key,.int .u32 d.1.word] 36)
   have SX:Sl 3 encN (wi.alloc (.cells #[.int .i64 d.1.id,.string d.1.key,.int .u32 d.1.word] 36)) (some ⟨wi.heap.size,0,none⟩) 1 [d.1]:=Sl.lit _ rfl rfl (fun _=>rfl) rfl
   have own5:=own1.nx k5
   clear own1
   have z5:=k5.size
   go_upto_region 4 with (at_builtin;(refine wpList_append_rd (enc:=encN) _ rfl _ _ 25 rfl w.heap.size 36 (.agg #[.int .i64 0,.string ByteArray.empty,.int .u32 0]) 3 32 Tryz.underlying25 Tryz.infoN rfl (by omega) (by omega) _ _ own5 rfl _ _ 1 1 [d.1] SX (fun h=>by cases h) (fun _=>rfl) (by simp [encN,Value.oneCell']) rfl (by simp;omega) (by omega) (by omega) ?_);intro v7 w7 own7 ch0 ch1)
   have RR:=lH (show MvNoRel H w v7 (.int .i64 ((k:Int)+1)) w7 from ⟨k+1,by omega,by go_num,by rw [TK.out];rw [List.map_append];exact own7,Chg.trans (K1.out.nx k5) ch1⟩)
   clear own7 ch0 ch1 own5 SX k5
   go_wp2_with fail
   exact ⟨RR.out,by simp [intOf];omega⟩
  ·obtain rfl:k=n:=by omega
   rw [List.take_of_length_le (by omega)] at own
   have OW:=lH own
   clear own kw OWN
   go_wp2_with fail
   go_ret
   exact ⟨_,rfl,OW.out,KW.out⟩
set_option maxRecDepth 100000 in
set_option maxHeartbeats 4000000 in
theorem table_m (a:Option Addr) (n c:Nat) (H:List Hg) (w:World) (h:HdL w (a,n,c) H) (hn:n≤1000) (hb:(H.flatMap Prod.snd).length≤10000) :
  Calls Tryz.prog 58 #[.slice a n c] w fun e w'=>∃ v,e=.returned v∧OwnL 2 encR 199 w.heap.size w' v (H.flatMap Prod.snd)∧Ex w w':=by
 have HL:=lH h.len
 have HS:=lH h
 have hHn:H.length=n:=HL.out
 have HB:=lH (fun k=>show ((H.take k).flatMap Prod.snd).length≤10000 from by
  have e:H.flatMap Prod.snd=(H.take k).flatMap Prod.snd++(H.drop k).flatMap Prod.snd:=by rw [← List.flatMap_append,List.take_append_drop]
  rw [e,List.length_append] at hb
  omega)
 clear h hb
 go_enter Tryz.func58,Tryz.ntmps58
 go_wp2_with fail
 go_loopw [3,8] (fun o i wr=>TbRel H w o i wr) (fun _ i _=>n-(intOf i).toNat)
 case atStart=>exact ⟨0,by omega,rfl,OwnL.nil _ _ _ _ _,Ex.refl _⟩
 case round =>
  obtain ⟨k,hk,rfl,own,kw⟩:=hrel
  obtain ⟨wi,rfl⟩:∃ wi:World,wi=wr:=⟨_,rfl⟩
  have KW:=lH kw
  have OWN:=lH own
  by_cases hkn:k<n
  ·obtain ⟨x,o,a',n',c',d,he,hx,hd,e0,e1,e2,e3,hr⟩:=(HdL.nx HS.out kw).at (show k<H.length by omega)
   simp only at he
   subst he
   have TK:=lH (take_snocH hd)
   have HR:=lH hr
   have zw:=kw.size
   clear hr hd own kw
   have B5:=Blk.new wi [.int .i64 d.1.id,.string d.1.key,.int .u32 d.1.word,.slice a' n' c'] 91
   have kk:=Ex.new wi (.cells #[.int .i64 d.1.id,.string d.1.key,.int .u32 d.1.word,.slice a' n' c'] 91)
   obtain ⟨w1,hw1⟩:∃ w1,w1=wi.alloc (.cells #[.int .i64 d.1.id,.string d.1.key,.int .u32 d.1.word,.slice a' n' c'] 91):=⟨_,rfl⟩
   obtain ⟨g5,hg5⟩:∃ g5,g5=wi.heap.size:=⟨_,rfl⟩
   replace B5:Blk w1 g5 [.int .i64 d.1.id,.string d.1.key,.int .u32 d.1.word,.slice a' n' c'] 91:=by rw [hw1,hg5];exact B5
   rw [← hw1] at kk
   have Hw1:=lH hw1
   have Hg5:=lH hg5
   have K1:=lH (KW.out.nx kk)
   have own1:=OWN.out.nx kk
   have z1:=kk.size
   have HR1:=lH (RowR.mono (RowR.chg HR.out kk (fun _ hx=>hx)) (fun _ hx=>Nat.lt_of_lt_of_le hx kk.size))
   clear kk hw1 hg5
   go_upto_region 5 with fail
   rw [← Hg5.out,← Hw1.out]
   clear Hg5 Hw1
   clear e0 e1 e2 e3
   have b3:=B5.cell 3 _ rfl
   have k5:=Ex.refl w1
   have SX:=HR1.out.1
   have hwf:=HR1.out.2
   have hrl:=HR1.out.len
   have own5:=own1
   have hb1:=HB.out (k+1)
   rw [TK.out,List.flatMap_append,List.length_append] at hb1
   simp only [List.flatMap_cons,List.flatMap_nil,List.append_nil] at hb1 hrl hwf SX
   clear own1
   have z5:=k5.size
   go_upto_region 6 with (at_builtin;(refine wpList_append_rd (enc:=encR) _ rfl _ _ 85 rfl w.heap.size 199 (.agg #[.string ByteArray.empty,.string ByteArray.empty]) 2 32 Tryz.underlying85 Tryz.infoRw rfl (by omega) (by omega) _ _ own5 rfl _ a' n' c' d.2 SX hwf.2.2 (fun _=>rfl) (by simp [encR,Value.oneCell']) rfl (by omega) (by omega) (by omega) ?_);intro v7 w7 own7 ch0 ch1)
   have RR:=lH (show TbRel H w v7 (.int .i64 ((k:Int)+1)) w7 from ⟨k+1,by omega,by go_num,by rw [TK.out];rw [List.flatMap_append];simp only [List.flatMap_cons,List.flatMap_nil,List.append_nil];exact own7,Chg.trans (K1.out.nx k5) ch1⟩)
   clear own7 ch0 ch1 own5 SX k5
   go_wp2_with fail
   exact ⟨RR.out,by simp [intOf];omega⟩
  ·obtain rfl:k=n:=by omega
   rw [List.take_of_length_le (by omega)] at own
   have OW:=lH own
   clear own kw OWN
   go_wp2_with fail
   go_ret
   exact ⟨_,rfl,OW.out,KW.out⟩
set_option maxHeartbeats 1000000 in
theorem cloneR_p (a:Option Addr) (n c:Nat) (l:List Rw) (w:World) (h:RowR (fun k=>k<w.heap.size) w (a,n,c) l) (hn:n≤100000) :
  Calls Tryz.prog 121 #[.slice a n c] w fun e w'=>∃ v,e=.returned v∧OwnL 2 encR 199 w.heap.size w' v l∧Ex w w':=by
 have hwf:=h.2
 have SX:=h.1
 have own5:OwnL 2 encR 199 w.heap.size w (.slice none 0 0) ([]:List Rw):=OwnL.nil _ _ _ _ _
 simp only at hwf SX
 clear h
 go_enter Tryz.func121,Tryz.ntmps121
 go_wp2_with (at_builtin;(refine wpList_append_rd (enc:=encR) _ rfl _ _ 85 rfl w.heap.size 199 (.agg #[.string ByteArray.empty,.string ByteArray.empty]) 2 32 Tryz.underlying85 Tryz.infoRw rfl (by omega) (by omega) _ [] own5 rfl _ a n c l SX hwf.2.2 (fun _=>rfl) (by simp [encR,Value.oneCell']) rfl (by simp) (by omega) (Nat.le_refl _) ?_);intro v7 w7 own7 ch0 ch1)
 go_ret
 exact ⟨_,rfl,by simpa using own7,ch1⟩
set_option maxHeartbeats 1000000 in
theorem mplace_p (a:Option Addr) (n c:Nat) (i:Int) (w:World) (h0:0≤i) (hi:i<n):Calls Tryz.prog 122 #[.slice a n c,.int .i64 i] w fun e w'=>e=.returned (.bool true)∧w=w':=by
 have g0:i ≥ 0:=h0
 go_enter Tryz.func122,Tryz.ntmps122
 go_wp2_with fail
 go_ret
 exact ⟨rfl,rfl⟩
set_option maxHeartbeats 1000000 in
theorem beside_p (a:Option Addr) (n c:Nat) (i j:Nat) (w:World) (hi:i<n) (hj:j<n) (hn:n≤1000) (hij:i+1=j∨j+1=i):Calls Tryz.prog 119 #[.slice a n c,.int .i64 i,.int .i64 j] w fun e w'=>e=.returned (.bool true)∧w=w':=by
 have w1:IntKind.i64.wrap ((i:Int)-(j:Int))=(i:Int)-(j:Int):=IntWalk.i64_in _ (by omega)
 have w2:IntKind.i64.wrap ((j:Int)-(i:Int))=(j:Int)-(i:Int):=IntWalk.i64_in _ (by omega)
 go_enter Tryz.func119,Tryz.ntmps119
 go_wp2_with fail
 refine (mplace_p a n c i _ (by omega) (by omega)).mono ?_
 rintro e w3 ⟨rfl,rfl⟩
 go_wp2_with fail
 refine (mplace_p a n c j _ (by omega) (by omega)).mono ?_
 rintro e w4 ⟨rfl,rfl⟩
 rcases hij with h | h
 ·have d1:((i:Int)-(j:Int)==1)=false:=by simp;omega
  have d2:((j:Int)-(i:Int)==1)=true:=by simp;omega
  clear h
  go_wp2_with fail
  go_ret
  exact ⟨rfl,rfl⟩
 ·have d1:((i:Int)-(j:Int)==1)=true:=by simp;omega
  clear h
  go_wp2_with fail
  go_ret
  exact ⟨rfl,rfl⟩
abbrev OwnHg (base:Nat) (w:World) (v:Value) (qs:List (Nd×Hdr)) (H:List Hg):Prop:=OwnN encN 4 2 encR 91 199 base w v qs H
theorem encHg_len (q:Nd×Hdr):(encP encN q).length=4:=rfl
theorem encHg_one (q:Nd×Hdr):∀ u∈encP encN q,u.oneCell'=true:=by simp [encP,encN,Hdr.val,Value.oneCell']
theorem own_ty {α β:Type} {s1 s2 e1 e2 b1 b2:Nat} {c1:α→List Value} {c2:β→List Value} {w:World} {v1 v2:Value} {l1:List α} {l2:List β} (h1:OwnL s1 c1 e1 b1 w v1 l1) (h2:OwnW s2 c2 e2 b2 w v2 l2) (hne:e1≠e2) {g:Nat} (hg:v1.ownBlock=some g):¬ v2.ownBlock=some g:=by
 intro hv
 obtain ⟨_,cur,e⟩:=OwnL.blk h1 hg
 obtain ⟨_,cur',e'⟩:=OwnW.blk h2 hv
 rw [e] at e'
 simp at e'
 exact hne e'.2
def CpRel (qs:List (Nd×Hdr)) (H:List Hg) (v:Value) (w:World) (i:Value) (wr:World):Prop :=
 ∃ (k:Nat) (ps:List (Nd×Hdr)),k≤H.length∧i=.int .i64 k∧OwnW 4 (encP encN) 91 w.heap.size wr v ps∧ps.length=H.length ∧
  (∀ (j:Nat) (q:Nd×Hdr) (c:Hg),j<k→ps[j]?=some q→H[j]?=some c→q.1=c.1∧OwnL 2 encR 199 w.heap.size wr q.2.val c.2)∧(∀ j,k≤j→ps[j]?=qs[j]?) ∧
  (∀ (i j:Nat) (qi qj:Nd×Hdr) (g:Nat),i<k→j<k→ps[i]?=some qi→ps[j]?=some qj→qi.2.val.ownBlock=some g→qj.2.val.ownBlock=some g→i=j)∧Ex w wr
set_option maxRecDepth 100000 in
set_option maxHeartbeats 4000000 in
theorem copy_m (a:Option Addr) (n c:Nat) (H:List Hg) (w:World) (h:HdL w (a,n,c) H) (hn:n≤1000) (hr:∀ c∈H,c.2.length≤100000) :
  Calls Tryz.prog 118 #[.slice a n c] w fun e w'=>∃ v qs,e=.returned v∧OwnHg w.heap.size w' v qs H∧Ex w w':=by
 have hwf:=h.wf
 have hHn:H.length=n:=h.len
 obtain ⟨qs,h1,_,_,h4⟩:=h
 simp only at h1 hwf
 have hqn:qs.length=n:=h1.1
 have H4:=lH h4
 have HR:=lH hr
 have HQN:=lH hqn
 have own0:OwnL 4 (encP encN) 91 w.heap.size w (.slice none 0 0) ([]:List (Nd×Hdr)):=OwnL.nil _ _ _ _ _
 clear h4 hr hqn
 go_enter Tryz.func118,Tryz.ntmps118
 go_upto_region 2 with (at_builtin;(refine wpList_append_rd (enc:=encP encN) _ rfl _ _ 202 rfl w.heap.size 91 (.agg #[.int .i64 0,.string ByteArray.empty,.int .u32 0,.slice none 0 0]) 4 56 Tryz.underlying202 Tryz.infoHg rfl (by omega) (by omega) _ [] own0 rfl _ a n c qs h1 hwf.2.2 encHg_len encHg_one rfl (by simp) (by omega) (Nat.le_refl _) ?_);intro v w1 own1 ch0 ch1)
 rw [List.nil_append] at own1
 have R0:=lH (show CpRel qs H v w (.int .i64 0) w1 from ⟨0,qs,by omega,rfl,own1.toW,by rw [HQN.out,hHn],fun j q c hj=>absurd hj (by omega),fun _ _=>rfl,fun i j qi qj g hi=>absurd hi (by omega),ch1⟩)
 obtain ⟨av,cv,rfl,rv,_⟩:=own1.rd (fun _=>rfl)
 rw [HQN.out] at R0 ⊢
 clear own1 ch0 ch1 own0 rv
 go_wp2_with fail
 go_loopw [9] (fun i wr=>CpRel qs H (.slice av n cv) w i wr) (fun i _=>n-(intOf i).toNat)
 case atStart=>exact R0.out
 case round =>
  clear R0
  obtain ⟨k,ps,hk,rfl,OW,hpl,hown,hrest,hdis,kw⟩:=hrel
  obtain ⟨wi,rfl⟩:∃ wi:World,wi=wr:=⟨_,rfl⟩
  have KW:=lH kw
  have HOWN:=lH hown
  have HREST:=lH hrest
  have HDIS:=lH hdis
  have OWH:=lH OW
  have HPL:=lH hpl
  by_cases hkn:k<n
  ·have hq:=List.getElem?_eq_getElem (show k<ps.length by omega)
   obtain ⟨q,hqe⟩:∃ q,q=ps[k]'(by omega):=⟨_,rfl⟩
   rw [← hqe] at hq
   obtain ⟨d,hd⟩:∃ d,H[k]?=some d:=⟨_,List.getElem?_eq_getElem (by omega)⟩
   have hqs:qs[k]?=some q:=by rw [← hrest k (Nat.le_refl k)];exact hq
   obtain ⟨hq1,hrow⟩:=H4.out k q d hqs hd
   have hdl:=HR.out d (List.mem_of_getElem? hd)
   obtain ⟨q1,a',n',c'⟩:=q
   simp only at hq1 hrow
   have hn':d.2.length=n':=hrow.len
   subst hn'
   obtain ⟨ag,cg,eg,rg,cg1,cg2,cg3,_⟩:=OWH.out.rd (fun _=>rfl)
   obtain ⟨g,hg,hgb⟩:=cg3 (by intro h0;rw [h0] at hpl;simp at hpl;omega)
   simp only [Value.slice.injEq] at eg
   obtain ⟨e1,e2,e3⟩:=eg
   rw [hg] at e1
   subst e1
   obtain ⟨k0,_,_⟩:=OWH.out.set1 encHg_len hq (c:=3) (by omega)
   have e3c:wi.cell? ⟨g,k*4+3,none⟩=some (.slice a' d.2.length c'):=k0
   have hrow2:=RowR.mono (RowR.chg hrow kw (fun _ hx=>hx)) (fun _ hx=>Nat.lt_of_lt_of_le hx kw.size)
   have HQ:=lH hq
   have HD:=lH hd
   have HQ1:=lH hq1
   have zw:=kw.size
   have hknI:(k:Int)<(n:Int):=by omega
   clear hqe hq hd hqs hq1 hrow k0 rg cg1 cg2 cg3 e2 e3 hown hrest hdis OW hpl
   go_wp2_with fail
   (with_reducible refine (cloneR_p a' d.2.length c' d.2 _ hrow2 (by omega)).mono ?_)
   rintro e w2 ⟨v2,rfl,own2,kk⟩
   obtain ⟨a2,c2,rfl,r2,_,_,_⟩:=own2.rd (fun _=>rfl)
   have K2:=lH (KW.out.nx kk)
   have OW2:=OWH.out.nx kk
   obtain ⟨k1,f1,up⟩:=OW2.set1 encHg_len HQ.out (c:=3) (by omega)
   have k1:w2.cell? ⟨g,k*4+3,none⟩=some (.slice a' d.2.length c'):=k1
   have zk:=kk.size
   have hgv:(Value.slice (some ⟨g,0,none⟩) n cv).ownBlock=some g:=rfl
   have RR:=lH (show CpRel qs H (.slice (some ⟨g,0,none⟩) n cv) w (.int .i64 ((k:Int)+1)) (w2.setCell ⟨g,k*4+3,none⟩ (.slice a2 d.2.length c2)) from by
    have hset:Chg (·≠g) w2 (w2.setCell ⟨g,k*4+3,none⟩ (.slice a2 d.2.length c2)):=(Chg.refl _ w2).setCell _ (fun x hx=>hx)
    refine ⟨k+1,ps.set k (q1,(a2,d.2.length,c2)),by omega,by go_num,up (q1,(a2,d.2.length,c2)) _ rfl,by rw [List.length_set];exact HPL.out,fun j q c hj hq hc=>?_,fun j hj=>?_,fun i j qi qj x hi hj hqi hqj hxi hxj=>?_,K2.out.setNew (p:=⟨g,k*4+3,none⟩) _ hgb⟩
    ·by_cases hjk:j=k
     ·subst hjk
      rw [List.getElem?_set_self (by rw [HPL.out];omega)] at hq
      cases hq
      rw [HD.out] at hc
      cases hc
      refine ⟨HQ1.out,?_⟩
      have:=own2.chg hset (fun x hx hv=>fun e=>own_ty own2 OW2 (by decide) hv (by rw [e];rfl))
      exact this.base zw
     ·rw [List.getElem?_set_ne (fun e=>hjk e.symm)] at hq
      obtain ⟨x1,x2⟩:=HOWN.out j q c (by omega) hq hc
      have x3:=x2.nx kk
      exact ⟨x1,x3.chg hset (fun x hx hv=>fun e=>own_ty x3 OW2 (by decide) hv (by rw [e];rfl))⟩
    ·rw [List.getElem?_set_ne (by omega)]
     exact HREST.out j (by omega)
    ·have lo:∀ j (q:Nd×Hdr),j<k→ps[j]?=some q→∀ x,q.2.val.ownBlock=some x→x<wi.heap.size:=fun j q hj hq x hx=>by
      obtain ⟨c,hc⟩:∃ c,H[j]?=some c:=⟨_,List.getElem?_eq_getElem (by omega)⟩
      obtain ⟨_,cur,e⟩:=OwnL.blk (HOWN.out j q c hj hq hc).2 hx
      exact heap_lt e
     have hi2:∀ x,(Value.slice a2 d.2.length c2).ownBlock=some x→wi.heap.size≤x:=fun x hx=>(OwnL.blk own2 hx).1
     by_cases hik:i=k
     ·by_cases hjk:j=k
      ·rw [hik,hjk]
      ·subst hik
       rw [List.getElem?_set_self (by rw [HPL.out];omega)] at hqi
       cases hqi
       rw [List.getElem?_set_ne (fun e=>hjk e.symm)] at hqj
       have h1:=lo j qj (by omega) hqj x hxj
       have h2:=hi2 x hxi
       omega
     ·rw [List.getElem?_set_ne (fun e=>hik e.symm)] at hqi
      by_cases hjk:j=k
      ·subst hjk
       rw [List.getElem?_set_self (by rw [HPL.out];omega)] at hqj
       cases hqj
       have h1:=lo i qi (by omega) hqi x hxi
       have h2:=hi2 x hxj
       omega
      ·rw [List.getElem?_set_ne (fun e=>hjk e.symm)] at hqj
       exact HDIS.out i j qi qj x (by omega) (by omega) hqi hqj hxi hxj)
   clear own2 r2 kk OW2 up e3c hrow2
   go_wp2_with fail
   exact ⟨RR.out,by simp [intOf];omega⟩
  ·obtain rfl:k=n:=by omega
   have FIN:=lH (show OwnHg w.heap.size wi (.slice av k cv) ps H from ⟨OW,hpl,fun j q c hq hc=>hown j q c (by have:=(List.getElem?_eq_some_iff.1 hc).1;omega) hq hc,fun i j qi qj g hi hj hgi hgj=>hdis i j qi qj g (by have:=(List.getElem?_eq_some_iff.1 hi).1;omega) (by have:=(List.getElem?_eq_some_iff.1 hj).1;omega) hi hj hgi hgj⟩)
   clear OW hown hrest hdis kw
   go_wp2_with fail
   go_ret
   exact ⟨_,ps,rfl,FIN.out,KW.out⟩
theorem Rd.own {α:Type} {sz n c:Nat} {S:Nat→Prop} {enc:α→List Value} {w:World} {a:Option Addr} {l:List α} (h:Rd sz enc S w a n l):Rd sz enc (fun k=>S k∧(Value.slice a n c).ownBlock=some k) w a n l:=by
 refine ⟨h.1,?_⟩
 rcases h.2 with h2 | ⟨x,o,e1,e2,e3⟩
 ·exact .inl h2
 ·exact .inr ⟨x,o,e1,⟨e2,by rw [e1];rfl⟩,e3⟩
def IsRow (w:World) (x:Nat):Prop:=∃ cur fr,w.heap[x]?=some (.cells cur 199 fr)
theorem IsRow.chg {w w':World} {x:Nat} (h:IsRow w x) {S:Nat→Prop} (k:Chg S w w') (hs:S x):IsRow w' x:=by
 obtain ⟨cur,fr,e⟩:=h
 exact ⟨cur,fr,(k.block x hs).trans e⟩
theorem IsRow.lt {w:World} {x:Nat} (h:IsRow w x):x<w.heap.size:=by
 obtain ⟨cur,fr,e⟩:=h
 exact heap_lt e
def Mem (base g:Nat) (w:World):Nat→Prop:=fun x=>base≤x∧x<w.heap.size∧x≠g∧IsRow w x
theorem Mem.ex {base g:Nat} {w w':World} (k:Ex w w') {x:Nat} (h:Mem base g w x):Mem base g w' x:=⟨h.1,Nat.lt_of_lt_of_le h.2.1 k.size,h.2.2.1,h.2.2.2.chg k h.2.1⟩
theorem Mem.ne {base g:Nat} {w w':World} (k:Chg (·≠g) w w') {x:Nat} (h:Mem base g w x):Mem base g w' x:=⟨h.1,Nat.lt_of_lt_of_le h.2.1 k.size,h.2.2.1,h.2.2.2.chg k h.2.2.1⟩
def MidX (base g n c:Nat) (w:World) (H:List Hg):Prop :=
 ∃ ps:List (Nd×Hdr),OwnW 4 (encP encN) 91 base w (.slice (some ⟨g,0,none⟩) n c) ps∧ps.length=H.length ∧
  ∀ (j:Nat) (q:Nd×Hdr) (d:Hg),ps[j]?=some q→H[j]?=some d→q.1=d.1∧RowR (Mem base g w) w q.2 d.2
section
variable {base g n c:Nat} {w w':World} {H:List Hg}
theorem OwnW.at0 {α:Type} {sz e n c g:Nat} {enc:α→List Value} {l:List α} (h:OwnW sz enc e base w (.slice (some ⟨g,0,none⟩) n c) l):l.length=n∧base≤g∧g<w.heap.size∧n≤c∧c≤maxLen:=by
 rcases h with ⟨h,_⟩ | ⟨g',cap,cur,h1,h2,h3,h4,h5,_⟩
 ·cases h
 ·injection h1 with e1 e2 e3
  cases e1
  subst e3
  exact ⟨e2.symm,h2,heap_lt h3,by omega,h5⟩
theorem MidX.fact (h:MidX base g n c w H):H.length=n∧base≤g∧g<w.heap.size∧n≤c∧c≤maxLen:=by
 obtain ⟨ps,h1,h2,_⟩:=h
 have:=h1.at0
 exact ⟨h2▸this.1,this.2⟩
theorem OwnL.rowM {v:Value} {l:List Rw} (h:OwnL 2 encR 199 base w v l) {ps:List (Nd×Hdr)} (hg:OwnW 4 (encP encN) 91 base w (.slice (some ⟨g,0,none⟩) n c) ps) {hd:Hdr} (hv:v=hd.val):RowR (Mem base g w) w hd l:=by
 obtain ⟨a,n',c'⟩:=hd
 obtain ⟨a1,c1,e,r,h1,h2,h3,h4⟩:=h.toW.rd (fun _=>rfl)
 rw [hv] at e
 injection e with e1 e2 e3
 simp only at e1 e2 e3
 subst e1 e2 e3
 exact ⟨Rd.mono (Rd.own r) (fun k hk=>⟨hk.1.1,hk.1.2,fun e=>own_ty h hg (by decide) (by rw [hv];exact hk.2) (by rw [e];rfl),by
  obtain ⟨_,cur,e⟩:=OwnL.blk h (by rw [hv];exact hk.2)
  exact ⟨cur,_,e⟩⟩),h1,h2,h4⟩
theorem MidX.of {qs:List (Nd×Hdr)} (h:OwnHg base w (.slice (some ⟨g,0,none⟩) n c) qs H):MidX base g n c w H :=
 ⟨qs,h.1,h.2.1,fun j q d hq hd=>⟨(h.2.2.1 j q d hq hd).1,(h.2.2.1 j q d hq hd).2.rowM h.1 rfl⟩⟩
theorem MidX.nx (h:MidX base g n c w H) (k:Ex w w'):MidX base g n c w' H:=by
 obtain ⟨ps,h1,h2,h3⟩:=h
 exact ⟨ps,h1.nx k,h2,fun j q d hq hd=>⟨(h3 j q d hq hd).1,RowR.mono (RowR.chg (h3 j q d hq hd).2 k (fun _ hx=>hx.2.1)) (fun _ hx=>Mem.ex k hx)⟩⟩
theorem MidX.cells (h:MidX base g n c w H) {j:Nat} {d:Hg} (hd:H[j]?=some d) :
  ∃ hd':Hdr,w.cell? ⟨g,j*4,none⟩=some (.int .i64 d.1.id)∧w.cell? ⟨g,j*4+1,none⟩=some (.string d.1.key)∧w.cell? ⟨g,j*4+2,none⟩=some (.int .u32 d.1.word)∧w.cell? ⟨g,j*4+3,none⟩=some (.slice hd'.1 d.2.length hd'.2.2) ∧
   (w.frozen? ⟨g,j*4+1,none⟩=false∧w.frozen? ⟨g,j*4+3,none⟩=false)∧hd'.2.1=d.2.length∧RowR (Mem base g w) w (hd'.1,d.2.length,hd'.2.2) d.2:=by
 obtain ⟨ps,h1,h2,h3⟩:=h
 have hjl:=(List.getElem?_eq_some_iff.1 hd).1
 have hq:=List.getElem?_eq_getElem (show j<ps.length by omega)
 obtain ⟨e1,r⟩:=h3 j _ d hq hd
 have hl:d.2.length=_:=r.len
 obtain ⟨k0,_,_⟩:=h1.set1 encHg_len hq (c:=0) (by omega)
 obtain ⟨k1,f1,_⟩:=h1.set1 encHg_len hq (c:=1) (by omega)
 obtain ⟨k2,_,_⟩:=h1.set1 encHg_len hq (c:=2) (by omega)
 obtain ⟨k3,f3,_⟩:=h1.set1 encHg_len hq (c:=3) (by omega)
 refine ⟨(ps[j]'(by omega)).2,?_,?_,?_,?_,⟨f1,f3⟩,hl.symm,?_⟩
 ·rw [← e1];exact k0
 ·rw [← e1];exact k1
 ·rw [← e1];exact k2
 ·rw [hl];exact k3
 ·rw [hl];exact r
theorem MidX.setRow (h:MidX base g n c w H) {j:Nat} {d:Hg} (hd:H[j]?=some d) {hdr:Hdr} {l:List Rw} (hr:RowR (Mem base g w) w hdr l):MidX base g n c (w.setCell ⟨g,j*4+3,none⟩ hdr.val) (H.set j (d.1,l)):=by
 obtain ⟨ps,h1,h2,h3⟩:=h
 have hjl:=(List.getElem?_eq_some_iff.1 hd).1
 have hq:=List.getElem?_eq_getElem (show j<ps.length by omega)
 obtain ⟨e1,r⟩:=h3 j _ d hq hd
 obtain ⟨_,_,up⟩:=h1.set1 encHg_len hq (c:=3) (by omega)
 have hset:Chg (·≠g) w (w.setCell ⟨g,j*4+3,none⟩ hdr.val):=(Chg.refl _ w).setCell _ (fun x hx=>hx)
 have hms:∀ x,Mem base g w x→Mem base g (w.setCell ⟨g,j*4+3,none⟩ hdr.val) x:=fun x hx=>Mem.ne hset hx
 refine ⟨ps.set j ((ps[j]'(by omega)).1,hdr),up _ _ rfl,by rw [List.length_set,List.length_set];exact h2,fun i q c hi hc=>?_⟩
 by_cases hij:i=j
 ·subst hij
  rw [List.getElem?_set_self (by omega)] at hi
  rw [List.getElem?_set_self hjl] at hc
  cases hi
  cases hc
  exact ⟨e1,RowR.mono (RowR.chg hr hset (fun _ hx=>hx.2.2.1)) hms⟩
 ·rw [List.getElem?_set_ne (fun e=>hij e.symm)] at hi hc
  exact ⟨(h3 i q c hi hc).1,RowR.mono (RowR.chg (h3 i q c hi hc).2 hset (fun _ hx=>hx.2.2.1)) hms⟩
theorem MidX.setKey (h:MidX base g n c w H) {j:Nat} {d:Hg} (hd:H[j]?=some d) (s:ByteArray):MidX base g n c (w.setCell ⟨g,j*4+1,none⟩ (.string s)) (H.set j ({ d.1 with key:=s },d.2)):=by
 obtain ⟨ps,h1,h2,h3⟩:=h
 have hjl:=(List.getElem?_eq_some_iff.1 hd).1
 have hq:=List.getElem?_eq_getElem (show j<ps.length by omega)
 obtain ⟨e1,r⟩:=h3 j _ d hq hd
 obtain ⟨_,_,up⟩:=h1.set1 encHg_len hq (c:=1) (by omega)
 have hset:Chg (·≠g) w (w.setCell ⟨g,j*4+1,none⟩ (.string s)):=(Chg.refl _ w).setCell _ (fun x hx=>hx)
 have hms:∀ x,Mem base g w x→Mem base g (w.setCell ⟨g,j*4+1,none⟩ (.string s)) x:=fun x hx=>Mem.ne hset hx
 refine ⟨ps.set j ({ (ps[j]'(by omega)).1 with key:=s },(ps[j]'(by omega)).2),up _ _ rfl,by rw [List.length_set,List.length_set];exact h2,fun i q c hi hc=>?_⟩
 by_cases hij:i=j
 ·subst hij
  rw [List.getElem?_set_self (by omega)] at hi
  rw [List.getElem?_set_self hjl] at hc
  cases hi
  cases hc
  exact ⟨by rw [e1],RowR.mono (RowR.chg r hset (fun _ hx=>hx.2.2.1)) hms⟩
 ·rw [List.getElem?_set_ne (fun e=>hij e.symm)] at hi hc
  exact ⟨(h3 i q c hi hc).1,RowR.mono (RowR.chg (h3 i q c hi hc).2 hset (fun _ hx=>hx.2.2.1)) hms⟩
theorem MidX.app {qs:List (Nd×Hdr)} (h:OwnHg base w (.slice (some ⟨g,0,none⟩) n c) qs H) {j:Nat} {q:Nd×Hdr} {d:Hg} (hq:qs[j]?=some q) (hd:H[j]?=some d) {l:List Rw} {hdr:Hdr} (own:OwnL 2 encR 199 base w' hdr.val l)
  (k:Chg (fun x=>x<w.heap.size∧¬ q.2.val.ownBlock=some x) w w'):MidX base g n c (w'.setCell ⟨g,j*4+3,none⟩ hdr.val) (H.set j (d.1,l)):=by
 have hjl:=(List.getElem?_eq_some_iff.1 hd).1
 have hne:∀ {i:Nat} {p:Nd×Hdr},qs[i]?=some p→∀ x,p.2.val.ownBlock=some x→x<w.heap.size:=fun hp x hx=>OwnN.lt h hp hx
 have hgo:¬ q.2.val.ownBlock=some g:=fun e=>own_ty (h.2.2.1 j q d hq hd).2 h.1 (by decide) e rfl
 have row':OwnW 4 (encP encN) 91 base w' (.slice (some ⟨g,0,none⟩) n c) qs:=h.1.chg k (fun x hx hv=>⟨hx,by
  obtain rfl:g=x:=by simpa [Value.ownBlock] using hv
  exact hgo⟩)
 obtain ⟨_,_,up⟩:=row'.set1 encHg_len hq (c:=3) (by omega)
 have hset:Chg (·≠g) w' (w'.setCell ⟨g,j*4+3,none⟩ hdr.val):=(Chg.refl _ w').setCell _ (fun x hx=>hx)
 have hms:∀ x,Mem base g w' x→Mem base g (w'.setCell ⟨g,j*4+3,none⟩ hdr.val) x:=fun x hx=>Mem.ne hset hx
 refine ⟨qs.set j (q.1,hdr),up _ _ rfl,by rw [List.length_set,List.length_set];exact h.2.1,fun i p c hi hc=>?_⟩
 by_cases hij:i=j
 ·subst hij
  rw [List.getElem?_set_self (List.getElem?_eq_some_iff.1 hq).1] at hi
  rw [List.getElem?_set_self hjl] at hc
  cases hi
  cases hc
  exact ⟨(h.2.2.1 i q d hq hd).1,RowR.mono (RowR.chg (own.rowM row' rfl) hset (fun _ hx=>hx.2.2.1)) hms⟩
 ·rw [List.getElem?_set_ne (fun e=>hij e.symm)] at hi hc
  obtain ⟨x1,x2⟩:=h.2.2.1 i p c hi hc
  have x3:OwnL 2 encR 199 base w' p.2.val c.2:=x2.chg k (fun x hx hv=>⟨hx,fun e=>hij (h.2.2.2 i j p q x hi hq hv e)⟩)
  exact ⟨x1,RowR.mono (RowR.chg (x3.rowM row' rfl) hset (fun _ hx=>hx.2.2.1)) hms⟩
theorem MidX.oth {qs:List (Nd×Hdr)} (h:OwnHg base w (.slice (some ⟨g,0,none⟩) n c) qs H) {i j:Nat} {p q:Nd×Hdr} {d:Hg} (hp:qs[i]?=some p) (hq:qs[j]?=some q) (hd:H[i]?=some d) (hij:i≠j)
  (hj:j<H.length) (k:Chg (fun x=>x<w.heap.size∧¬ q.2.val.ownBlock=some x) w w'):RowR (Mem base g w') w' p.2 d.2:=by
 obtain ⟨dj,hdj⟩:∃ d,H[j]?=some d:=⟨_,List.getElem?_eq_getElem hj⟩
 have hgo:¬ q.2.val.ownBlock=some g:=fun e=>own_ty (h.2.2.1 j q dj hq hdj).2 h.1 (by decide) e rfl
 have row':OwnW 4 (encP encN) 91 base w' (.slice (some ⟨g,0,none⟩) n c) qs:=h.1.chg k (fun x hx hv=>⟨hx,by
  obtain rfl:g=x:=by simpa [Value.ownBlock] using hv
  exact hgo⟩)
 obtain ⟨_,x2⟩:=h.2.2.1 i p d hp hd
 have x3:OwnL 2 encR 199 base w' p.2.val d.2:=x2.chg k (fun x hx hv=>⟨hx,fun e=>hij (h.2.2.2 i j p q x hp hq hv e)⟩)
 exact x3.rowM row' rfl
theorem MidX.far (h:MidX base g n c w H) {g':Nat} {cs:List Value} (B:Blk w g' cs 91) (hne:¬ g=g') (k:Chg (·≠g') w w'):MidX base g n c w' H:=by
 have nr:∀ x,IsRow w x→x≠g':=fun x hx e=>by
  obtain ⟨cur,fr,e1⟩:=hx
  have e2:w.heap[g']?=_:=B
  rw [e,e2] at e1
  simp at e1
 obtain ⟨ps,h1,h2,h3⟩:=h
 refine ⟨ps,h1.chg k (fun x _ hv=>?_),h2,fun j q d hq hd=>⟨(h3 j q d hq hd).1,RowR.mono (RowR.chg (h3 j q d hq hd).2 k (fun x hx=>nr x hx.2.2.2)) (fun x hx=>⟨hx.1,Nat.lt_of_lt_of_le hx.2.1 k.size,hx.2.2.1,hx.2.2.2.chg k (nr x hx.2.2.2)⟩)⟩⟩
 obtain rfl:g=x:=by simpa [Value.ownBlock] using hv
 exact hne
theorem MidX.hdS (h:MidX base g n c w H):HdS (fun k=>base≤k∧k<w.heap.size) w (some ⟨g,0,none⟩,n,c) H:=by
 have hf:=h.fact
 obtain ⟨ps,h1,h2,h3⟩:=h
 obtain ⟨a,cap,e,r,_⟩:=h1.rd encHg_len
 injection e with e1 e2 e3
 subst e1
 rw [← e2] at r
 exact ⟨ps,r,⟨hf.2.2.2.1,hf.2.2.2.2,fun h=>by cases h⟩,hf.1,fun j q d hq hd=>⟨(h3 j q d hq hd).1,RowR.mono (h3 j q d hq hd).2 (fun _ hx=>⟨hx.1,hx.2.1⟩)⟩⟩
end
set_option maxHeartbeats 4000000 in
theorem first_m (base g n c:Nat) (w:World) (d:Hg) (H:List Hg) (h:MidX base g n c w (d::H)) (hk:d.1.key=⟨#[]⟩) :
  Calls Tryz.prog 120 #[.slice (some ⟨g,0,none⟩) n c] w fun e w'=>e=.returned (.slice (some ⟨g,0,none⟩) n c)∧MidX base g n c w' (d::H)∧Exb g w w'∧(w.heap.size≤w'.heap.size):=by
 have hn:n=H.length+1:=by have:=h.fact.1;simp at this;omega
 have h0:(d::H)[0]?=some d:=rfl
 obtain ⟨_,_,c1,_,_,⟨f1,_⟩,_⟩:=h.cells h0
 have c1:w.cell? ⟨g,1,none⟩=some (.string d.1.key):=by simpa using c1
 have f1:w.frozen? ⟨g,1,none⟩=false:=by simpa using f1
 have R:=lH (show MidX base g n c (w.setCell ⟨g,1,none⟩ (.string ⟨#[]⟩)) (d::H) from by
  have:=h.setKey h0 ⟨#[]⟩
  have e:({ d.1 with key:=⟨#[]⟩ }:Nd)=d.1:=by rw [← hk]
  rw [e] at this
  simpa using this)
 have K:=lH (show Exb g w (w.setCell ⟨g,1,none⟩ (.string ⟨#[]⟩)) from (Exb.refl g w).setB (p:=⟨g,1,none⟩) _ rfl)
 have d0:(0:Int)<(n:Int):=by omega
 have d1:(n:Int)>0:=by omega
 clear h h0 hn hk
 go_enter Tryz.func120,Tryz.ntmps120
 go_wp2_with fail
 go_ret
 exact ⟨rfl,R.out,K.out,K.out.size⟩
theorem mix_at {α:Type} {A B:List α} (hl:A.length=B.length) {k:Nat} {p:α} (hp:B[k]?=some p):(A.take k++B.drop k)[k]?=some p:=by
 have hk:=(List.getElem?_eq_some_iff.1 hp).1
 rw [List.getElem?_append_right (by rw [List.length_take];omega),List.length_take,List.getElem?_drop,Nat.min_eq_left (by omega),Nat.sub_self]
 exact hp
theorem mix_set {α:Type} {A B:List α} (hl:A.length=B.length) {k:Nat} {y:α} (hy:A[k]?=some y):(A.take k++B.drop k).set k y=A.take (k+1)++B.drop (k+1):=by
 have hk:=(List.getElem?_eq_some_iff.1 hy).1
 rw [List.set_append_right _ _ (by rw [List.length_take];omega),List.length_take,Nat.min_eq_left (by omega),Nat.sub_self,List.drop_eq_getElem_cons (show k<B.length by omega),List.set_cons_zero,List.take_add_one,hy]
 simp
section
variable {L:List Nd} {R:List Rw} {H res:List Hg} {id:Int}
theorem mv_find (h:InvB (L.map iwN) R H) (h':InvB (L.map iwN) R res) (h0:checkN L=0) {F:Hg} (hF:F∈H):∃ d∈res,d.1.id=F.1.id∧findN (res.map Prod.fst) F.1.id=(d.1,true):=by
 have h1:iwN F.1∈L.map iwN:=h.iw.subset (List.mem_map.2 ⟨F,hF,rfl⟩)
 have h2:=h'.iw.symm.subset h1
 obtain ⟨d,hd,e⟩:=List.mem_map.1 h2
 have e1:d.1.id=F.1.id:=congrArg Prod.fst e
 refine ⟨d,hd,e1,?_⟩
 rw [← e1]
 exact find_in (h'.check h0) (List.mem_map.2 ⟨d,hd,rfl⟩)
theorem rest_len (e:SameBut id H res):(dropN (res.map Prod.fst) id).length=(dropN (H.map Prod.fst) id).length:=by
 have:=congrArg List.length (drop_iw e)
 simpa using this
theorem rest_at (h':InvB (L.map iwN) R res) (h0:checkN L=0) (e:SameBut id H res) {i:Nat} {p:Nd} (hp:(dropN (H.map Prod.fst) id)[i]?=some p) :
  ∃ y,(dropN (res.map Prod.fst) id)[i]?=some y∧findN (res.map Prod.fst) p.id=(y,true)∧({ p with key:=y.key }:Nd)=y:=by
 have he:=drop_iw e
 have h1:((dropN (res.map Prod.fst) id).map iwN)[i]?=some (iwN p):=by rw [he,List.getElem?_map,hp];rfl
 rw [List.getElem?_map] at h1
 cases hy:(dropN (res.map Prod.fst) id)[i]? with
 | none=>rw [hy] at h1;cases h1
 | some y =>
  rw [hy] at h1
  have e1:iwN y=iwN p:=by simpa using h1
  have e2:y.id=p.id:=congrArg Prod.fst e1
  have e3:y.word=p.word:=congrArg Prod.snd e1
  refine ⟨y,rfl,?_,?_⟩
  ·rw [← e2]
   exact find_in (h'.check h0) (List.mem_filter.1 (List.mem_of_getElem? hy)).1
  ·cases y
   cases p
   simp only at e2 e3
   rw [e2,e3]
theorem mv_ins (h:InvB (L.map iwN) R H) (h':InvB (L.map iwN) R res) (h0:checkN L=0) (e:SameBut id H res) {d:Hg} (hd:d∈res) (hid:d.1.id=id) {m:Nat} (hm:m≤16) {frm:Int} (hf:(findN (dropN (res.map Prod.fst) id) frm).2=true) :
  ∃ t:Nat,insertN (dropN (res.map Prod.fst) id) (buildN (dropN (H.map Prod.fst) id) (m:Int)).1 d.1 frm m=((buildN (res.map Prod.fst) (m:Int)).1,t,0):=by
 subst hid
 rw [move_links h h' h0 e hm]
 have hx:d.1∈res.map Prod.fst:=List.mem_map.2 ⟨d,hd,rfl⟩
 have:=ins_ok (frm:=frm) (put_check (h'.check h0) hx) hm (.inr hf)
 rw [put_build (h'.check h0) hx] at this
 exact ⟨_,this⟩
theorem mv_rem (h:InvB (L.map iwN) R H) (h0:checkN L=0) {F:Hg} (hF:F∈H) {m:Nat} (hm:m≤16) :
  ∃ t:Nat,removeN (H.map Prod.fst) (buildN (H.map Prod.fst) (m:Int)).1 F.1.id m=((buildN (dropN (H.map Prod.fst) F.1.id) (m:Int)).1,t,0) :=
 ⟨_,rem_ok (h.check h0) hm (List.mem_map.2 ⟨F,hF,rfl⟩)⟩
end
end Go.Proofs.YthcholmhmcpooaaGreatDoor
