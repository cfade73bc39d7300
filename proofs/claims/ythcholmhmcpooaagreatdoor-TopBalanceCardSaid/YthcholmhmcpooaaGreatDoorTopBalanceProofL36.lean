/- Texts for TopBalanceProof. -/
import Derived.Lib.LaidU8
import Derived.ProofKit
import Derived.OpenShut
import Derived.ShutString
import Derived.ChangeOld
import Derived.Lib.SmallJoins
import Derived.Deep.Slices
import Derived.Deep.Fields
import Derived.ChangeSame
import Derived.Test.YthcholmhmcpooaaGreatDoorTopBalanceProofL11
import Derived.Test.YthcholmhmcpooaaGreatDoorTopBalanceProofL14
set_option linter.unusedSimpArgs false
set_option linter.unusedVariables false

namespace Go.Proofs.YthcholmhmcpooaaGreatDoor
open Go.RowKit
theorem check_one {x:Nd} (h1:1≤x.id) (h2:x.id≤2147483647) (h3:x.key.size≤64) (h4:x.word<65536):checkN [x]=0:=by
 have hb:badN x=false:=by
  unfold badN validN
  simp
  omega
 have hd:dupN [x]=false:=by
  cases h:dupN [x] with
  | false=>rfl
  | true =>
   obtain ⟨i,k,_,_,hki,hi,_⟩:=(dupN_iff _).1 h
   have:=(List.getElem?_eq_some_iff.1 hi).1
   simp at this
   omega
 unfold checkN
 simp [hb,hd]
def SomeOf (n b:Nat) (w w':World) (v:Value) (L:List Nd):Prop:=RosterOf n b w w' v L∧1≤L.length
set_option maxRecDepth 100000 in
set_option maxHeartbeats 1000000 in
theorem some_n {b:Nat} (n:Nat) (w:World) (h:TK w b) (hL:LetG w) (hgb:¬ 0=b) (hn0:1≤n) (hn:n≤60) :
  Calls Tryz.prog 9 #[.pointer (some ⟨b,0,none⟩),.int .i64 n] w fun e w'=>∃ v L,e=.returned v∧SomeOf n b w w' v L:=by
 have hbw:=h.lt
 go_enter Tryz.func9,Tryz.ntmps9
 go_wp2_with fail
 refine (roster_t n _ h hL hgb hn0 hn).mono ?_
 rintro e w1 ⟨v1,L,rfl,R⟩
 obtain ⟨A1,C1,rfl,_,_,_,_⟩:=R.own.slf (fun _=>rfl)
 have T:=R.tape
 have L1:=hL.nxb hgb R.k
 clear h hL
 by_cases h0:L.length=0
 ·have d0:((L.length:Int)==0)=true:=by rw [h0];rfl
  have kk:=R.k
  clear R
  go_wp2_with fail
  refine (next_t (3*(n:Int)) _ T (by omega) (by omega)).mono ?_
  clear T
  rintro e w2 ⟨d,rfl,r0,r1,T,k2⟩
  replace L1:=L1.nxb hgb k2
  replace kk:=kk.nxb k2
  clear k2
  go_wp2_with fail
  refine (key_t _ T L1 hgb).mono ?_
  clear T
  rintro e w3 ⟨s,rfl,hs,T,k2⟩
  replace kk:=kk.nxb k2
  clear k2 L1
  go_wp2_with fail
  refine (word_t _ T).mono ?_
  clear T
  rintro e w4 ⟨m,rfl,hm,T,k2⟩
  replace kk:=kk.nxb k2
  clear k2
  have kz:=kk.size
  go_wp2_with fail
  go_ret
  refine ⟨_,[⟨1+d,s,m⟩],rfl,⟨OwnL.lit [⟨1+d,s,m⟩] (fun _=>rfl) kz (by unfold maxLen;simp) rfl,by simp;omega,check_one (by simp;omega) (by simp;omega) hs hm,by simpa using hm,T.nx (Ex.new _ _),kk.nxb ((Ex.new _ _).b b)⟩,by simp⟩
 ·have d0:((L.length:Int)==0)=false:=by rw [beq_eq_false_iff_ne];omega
  have R:=lH R
  go_wp2_with fail
  go_ret
  exact ⟨_,L,rfl,R.out,by omega⟩
theorem Tryz.gTab : Tryz.prog.globalNamed "math/bits.deBruijn32tab" = some 1 := by kernel_rfl
theorem Tryz.tTab:(Tryz.prog.globals[1]?).map (·.type)=some 301:=by kernel_rfl
theorem Tryz.cells32:Tryz.prog.cellsOf 301=32:=by kernel_rfl
theorem Tryz.cellsU8:Tryz.prog.cellsOf 5=1:=by kernel_rfl
theorem laid_tab {H:Type}:(Rows.laid_math_bits_deBruijn32tab:DataW H)=Lib.tabData .u8 (Lib.deBruijn32tab.map fun (n:Nat)=>(n:Int)):=rfl
theorem tabG_of {rest : List (String × DataW Unit)} {W : World} (h : laidMetH Tryz.prog (("math/bits.deBruijn32tab", Rows.laid_math_bits_deBruijn32tab) :: rest) W)
  (hp : ((("math/bits.deBruijn32tab", Rows.laid_math_bits_deBruijn32tab) :: rest).all fun x => x.2.handleName?.isNone) = true) : TabG W := by
 rw [MakeChecks.laidMetH_plain _ _ _ hp,laid_tab] at h
 have ht:=Lib.tabIs_of_head Tryz.gTab Tryz.tTab Tryz.underlying301 Tryz.underlying5 Tryz.cellsU8 Tryz.cells32 h
 intro j hj
 have:=ht.cell Tryz.gTab j (by simp [Lib.deBruijn32tab];omega)
 rw [this]
 congr 2
 simp [List.getD,List.getElem?_map]
 cases h:Lib.deBruijn32tab[j]?<;>simp
open Go.ChangeShapes Go.WideShapes Go.ChangeAt Go.RowKit Go.Deep Go.Joins
theorem own:ownKnob Tryz.prog.godebug=none:=by kernel_rfl
theorem laidOut:laidOutB Tryz.prog=true:=by kernel_rfl
section
variable {H:Type} {enc:TypeId×Value→H} {P:Program} {w:World} {base:Nat} {spare:Nat→Bool} {held:Bool}
theorem addr_lit {a:Addr} {v:Value} {w:World} (h:w.cell? (a.add 0)=some v):a=⟨a.block,a.off,none⟩:=by
 obtain ⟨b,o,s⟩:=a
 have:s=none:=by simpa [Addr.add] using World.cell?_spot h
 subst this;rfl
theorem rd_ints {t e:TypeId} {k:IntKind} {v:Value} {d:DataW H} {p:List MemPlace} {r:Reach} {b0:Nat} (ht:P.underlying t=some (.slice e)) (he:P.underlying e=some (.int k)) (hC:P.cellsOf e=1)
  (hv:Value.okWide P w r b0 t v) (h:DataW.Trod enc P w base spare held t v d p) :
  ∃ a n c l,v=.slice a n c∧Rd 1 (fun x:Int=>[Value.int k x]) (· < w.heap.size) w a n l∧n≤c∧c≤maxLen∧(∀ x∈l,(Lit.int k x).wf=true)∧(a=none→c=0):=by
 obtain ⟨a0,len0,cap0,rfl⟩:=okWide_slice ht hv
 obtain ⟨fuel,hf⟩:=h
 rcases open_ints ht he hC hf with ⟨hcs,_⟩ | ⟨x,l,c,zs,hcs,_,hl,hm,hz,_,hcell,hwz⟩
 ·simp [Value.cells] at hcs
  obtain ⟨rfl,rfl,rfl⟩:=hcs
  exact ⟨none,0,0,[],rfl,Rd.nil _ _ _ _ _,by omega,by unfold maxLen;omega,by simp,fun _=>rfl⟩
 ·simp [Value.cells] at hcs
  obtain ⟨rfl,rfl,rfl⟩:=hcs
  have hz':len0≤zs.length:=by rw [hz];split<;>omega
  refine ⟨_,len0,cap0,zs.take len0,rfl,⟨by simp;omega,?_⟩,hl,hm,fun y hy=>hwz y (List.mem_of_mem_take hy),fun h=>by cases h⟩
  rcases Nat.eq_zero_or_pos len0 with h0 | h0
  ·exact .inl h0
  ·have hx:=addr_lit (hcell 0 (by omega))
   refine .inr ⟨x.block,x.off,by rw [← hx],?_,fun j y hj c u hu=>?_⟩
   ·have:=World.block_lt_of_cell? w _ (hcell 0 (by omega))
    rw [hx] at this
    simpa [Addr.add] using this
   ·have hj':j<len0:=by
     have:=(List.getElem?_eq_some_iff.1 hj).1
     simp at this;omega
    have hy:zs.getD j 0=y:=by
     rw [List.getElem?_take,if_pos hj'] at hj
     simp [List.getD,hj]
    have hc:=hcell j (by omega)
    rw [hx,Addr.add_lit,hy] at hc
    rcases c with _ | c
    ·simp at hu;subst hu;simpa using hc
    ·simp at hu
end
end Go.Proofs.YthcholmhmcpooaaGreatDoor
