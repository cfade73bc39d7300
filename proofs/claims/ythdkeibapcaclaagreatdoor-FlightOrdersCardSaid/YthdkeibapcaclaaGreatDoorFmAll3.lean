/- Shared texts. -/
import Derived.Deep.DeepCutAuto
import Derived.ArgAppend
import Derived.Sort.Walk0
import Derived.Sort.LotA
import Derived.Shelf.Abstract
import Derived.Shelf.SlSortFuncK.ComposeK
import Derived.Shelf.GgSortFunc.SmallK
import Derived.Test.YthdkeibapcaclaaGreatDoorFmAll1
import Derived.Test.YthdkeibapcaclaaGreatDoorFmAll2
set_option linter.unusedSimpArgs false
set_option linter.unusedVariables false

namespace Go.Proofs.YthdkeibapcaclaaGreatDoor
open Go.RowKit
def sameN (a b:Nat) (h:Int):Bool:=decide (h≤(commonN a b:Int))
def validN (a:Nat):Bool:=decide ((a:Int)≤65535)
theorem wvalid_r (a:Nat) (w:World):Calls Tryz.prog 148 #[.int .u32 a] w fun e w'=>e=.returned (.bool (validN a))∧w=w':=by
 have HV:Hid (validN a=decide ((a:Int)<65536)):=by
  show validN a=_
  unfold validN
  rw [decide_eq_decide]
  omega
 go_enter Tryz.func148,Tryz.ntmps148
 go_wp2
 go_ret
 exact ⟨by rw [HV.out];rfl,rfl⟩
structure Nd where
 id:Int
 key:ByteArray
 word:Nat
def encN (x:Nd):List Value:=[.int .i64 x.id,.string x.key,.int .u32 x.word]
theorem Tryz.infoN:(Tryz.prog.info? 60).map (fun i=>(i.zero,i.size,i.bytes))=some (some (.agg #[.int .i64 0,.string ByteArray.empty,.int .u32 0]),3,32):=by kernel_rfl
def NodesPost (l:List Nd) (w:World) (e:Ending) (w':World):Prop :=
 ∃ (a:Option Addr) (n cap:Nat),e=.returned (.slice a n cap)∧Rd 3 encN (fun k=>w.heap.size≤k∧k<w'.heap.size) w' a n l∧Chg (· < w.heap.size) w w'
def groupN (l:List Nd) (h:Int) (v:Nat):List Nd:=l.filter fun x=>sameN x.word v h
theorem take_snocN {α:Type} (l:List α) (k:Nat) (y:α) (h:l[k]?=some y):l.take (k+1)=l.take k++[y]:=by
 rw [List.take_add_one,h];rfl
theorem str_neN {x y:ByteArray} (h:¬ x=y):(x.toList==y.toList)=false:=by
 rw [ByteArray.toList_eq,ByteArray.toList_eq,beq_eq_false_iff_ne]
 intro he
 exact h (ByteArray.ext (Array.toList_inj.1 he))
theorem str_eqN {x y:ByteArray} (h:x=y):(x.toList==y.toList)=true:=by subst h;simp
theorem vkey_r (s:ByteArray) (w:World):Calls Tryz.prog 147 #[.string s] w fun e w'=>e=.returned (.bool (decide ((s.size:Int)≤64)))∧w=w':=by
 go_enter Tryz.func147,Tryz.ntmps147
 go_wp2
 go_ret
 exact ⟨rfl,rfl⟩
def badN (x:Nd):Bool:=decide (x.id<1)||decide (2147483647<x.id)||!decide ((x.key.size:Int)≤64)||!validN x.word
def eqN (x y:Nd):Bool:=x.id==y.id||x.key.toList==y.key.toList
def dupN (l:List Nd):Bool:=(List.range l.length).any fun (i:Nat)=>(List.range i).any fun (k:Nat)=>match l[i]?,l[k]? with | some x,some y=>eqN x y | _,_=>false
theorem dupN_iff (l:List Nd):dupN l=true↔∃ (i k:Nat) (x y:Nd),k<i∧l[i]?=some x∧l[k]?=some y∧eqN x y=true:=by
 unfold dupN
 simp only [List.any_eq_true,List.mem_range]
 constructor
 ·rintro ⟨i,_,k,hk,h⟩
  cases hx:l[i]? with
  | none=>simp [hx] at h
  | some x =>
   cases hy:l[k]? with
   | none=>simp [hx,hy] at h
   | some y=>exact ⟨i,k,x,y,hk,hx,hy,by simpa [hx,hy] using h⟩
 ·rintro ⟨i,k,x,y,hk,hx,hy,he⟩
  exact ⟨i,(List.getElem?_eq_some_iff.1 hx).1,k,hk,by simpa [hx,hy] using he⟩
def checkN (l:List Nd):Int:=if 64<l.length then 3 else if l.any badN then 1 else if dupN l then 5 else 0
def N2Rel (n:Nat) (l:List Nd) (w:World) (i j:Value) (wr:World):Prop :=
 ∃ k:Nat,k≤n∧i=.int .i64 k∧Ex w wr∧∀ i' k' x y,i'<k→k'<i'→l[i']?=some x→l[k']?=some y→eqN x y=false
def N3Rel (n:Nat) (l:List Nd) (x:Nd) (w:World) (i:Value) (wr:World):Prop :=
 ∃ k:Nat,k≤n∧i=.int .i64 k∧Ex w wr∧∀ k' y,k'<k→l[k']?=some y→eqN x y=false
def N1Rel (n:Nat) (l:List Nd) (w:World) (i:Value) (wr:World):Prop :=
 ∃ k:Nat,k≤n∧i=.int .i64 k∧Ex w wr∧∀ k' y,k'<k→l[k']?=some y→badN y=false
set_option maxHeartbeats 2000000 in
theorem check_r (a:Option Addr) (n c:Nat) (l:List Nd) (w:World) (h:Sl 3 encN w a n l) (hn:n≤1000000) :
  Calls Tryz.prog 96 #[.slice a n c] w fun e w'=>e=.returned (.int .i64 (checkN l))∧Ex w w':=by
 have hlen:=h.len
 go_enter Tryz.func96,Tryz.ntmps96
 by_cases h64:64<n
 ·have HC:Hid (checkN l=3):=lH (by unfold checkN;rw [if_pos (by omega)])
  clear h hlen
  go_wp2_with fail
  go_ret
  exact ⟨by rw [HC.out];rfl,Ex.refl _⟩
 have HL:=lH hlen
 clear hlen
 go_wp2_with fail
 go_loopw [3] (fun i wr=>N1Rel n l w i wr) (fun i _=>n-(intOf i).toNat)
 case atStart=>exact ⟨0,by omega,rfl,Ex.refl _,by intro _ _ h;omega⟩
 case round =>
  obtain ⟨k,hk,rfl,kw,hgood⟩:=hrel
  have HG:=lH hgood
  clear hgood
  obtain ⟨wo,rfl⟩:∃ wo:World,wo=wr:=⟨_,rfl⟩
  by_cases hlt:k<n
  ·obtain ⟨x1,o1,y,rfl,hx1,hy,hc1⟩:=(h.nx kw).at hlt
   have e0:wo.cell? ⟨x1,o1+k*3,none⟩=some (.int .i64 y.id):=hc1 0 _ rfl
   have e1:wo.cell? ⟨x1,o1+k*3+1,none⟩=some (.string y.key):=hc1 1 _ rfl
   have e2:wo.cell? ⟨x1,o1+k*3+1+1,none⟩=some (.int .u32 y.word):=by simpa [Nat.add_assoc] using hc1 2 _ rfl
   have e2':wo.cell? ⟨x1,o1+k*3+2,none⟩=some (.int .u32 y.word):=hc1 2 _ rfl
   have HY:=lH hy
   have BAD:badN y=true→checkN l=1:=fun hb=>by
    unfold checkN
    rw [if_neg (by rw [HL.out];exact h64),if_pos (List.any_eq_true.2 ⟨y,List.mem_of_getElem? HY.out,hb⟩)]
   clear hc1 hy h
   by_cases b1:y.id<1
   ·have HB:=lH (BAD (by unfold badN;simp [b1]))
    clear BAD
    go_wp2_with fail
    go_ret
    exact ⟨by rw [HB.out];rfl,kw⟩
   by_cases b2:2147483647<y.id
   ·have HB:=lH (BAD (by unfold badN;simp [b2]))
    clear BAD
    go_wp2_with fail
    go_ret
    exact ⟨by rw [HB.out];rfl,kw⟩
   have BAD:=lH BAD
   go_wp2_with fail
   refine (vkey_r _ _).mono ?_
   rintro e w2 ⟨rfl,rfl⟩
   by_cases b3:(y.key.size:Int)≤64
   ·have d3:decide ((y.key.size:Int)≤64)=true:=by simpa using b3
    rw [d3]
    clear d3
    go_wp2_with fail
    refine (wvalid_r _ _).mono ?_
    rintro e w2 ⟨rfl,rfl⟩
    cases b4:validN y.word with
    | true =>
     have BG:Hid (badN y=false):=lH (by unfold badN;simp [b1,b2,b3,b4])
     clear BAD b4 b3
     go_wp2_with fail
     refine ⟨⟨k+1,by omega,by go_num,kw,fun k' y' hk' hy'=>?_⟩,by simp [intOf];omega⟩
     rcases Nat.lt_or_ge k' k with h | h
     ·exact HG.out k' y' h hy'
     ·obtain rfl:k'=k:=by omega
      rw [Option.some.inj (hy'.symm.trans HY.out)]
      exact BG.out
    | false =>
     have HB:=lH (BAD.out (by unfold badN;simp [b4]))
     clear BAD b4
     go_wp2_with fail
     go_ret
     exact ⟨by rw [HB.out];rfl,kw⟩
   ·have d3:decide ((y.key.size:Int)≤64)=false:=by simpa using b3
    have HB:=lH (BAD.out (by unfold badN;simp [b3]))
    rw [d3]
    clear d3 BAD b3
    go_wp2_with fail
    go_ret
    exact ⟨by rw [HB.out];rfl,kw⟩
  ·obtain rfl:k=n:=by omega
   have HNB:Hid (l.any badN=false):=lH (by
    rw [List.any_eq_false]
    intro y hy
    obtain ⟨j,hj,he⟩:=List.mem_iff_getElem.1 hy
    rw [HG.out j y (by rw [← HL.out];exact hj) (by rw [← he];simp)]
    simp)
   clear HG hlt hk
   obtain ⟨w1,rfl⟩:∃ w1:World,w1=wo:=⟨_,rfl⟩
   have hs:=lH h
   clear h
   go_wp2_with fail
   go_loopw [4,5] (fun i j wr=>N2Rel k l w i j wr) (fun i _ _=>k-(intOf i).toNat)
   case atStart=>exact ⟨0,by omega,rfl,kw,by intro _ _ _ _ h;omega⟩
   case round =>
    obtain ⟨m,hm,rfl,kw,hgood⟩:=hrel
    have HG:=lH hgood
    clear hgood
    obtain ⟨wo,rfl⟩:∃ wo:World,wo=wr:=⟨_,rfl⟩
    by_cases hlt:m<k
    ·obtain ⟨x1,o1,x,rfl,hx1,hx,hc1⟩:=(hs.out.nx kw).at hlt
     have HX:=lH hx
     have HC:=lH hc1
     clear hx hc1
     go_wp2_with fail
     go_loopw [5] (fun j wr=>N3Rel m l x w j wr) (fun j _=>m-(intOf j).toNat)
     case atStart=>exact ⟨0,by omega,rfl,kw,by intro _ _ h;omega⟩
     case round =>
      obtain ⟨q,hq,rfl,kv,hok⟩:=hrel
      have HO:=lH hok
      clear hok
      obtain ⟨wi,rfl⟩:∃ wi:World,wi=wr:=⟨_,rfl⟩
      by_cases hlq:q<m
      ·obtain ⟨x2,o2,y,e2,hx2,hy,hc2⟩:=(hs.out.nx kv).at (Nat.lt_trans hlq hlt)
       cases e2
       obtain ⟨x3,o3,x',e3,hx3,hx',hc1⟩:=(hs.out.nx kv).at hlt
       cases e3
       obtain rfl:x=x':=Option.some.inj (HX.out.symm.trans hx')
       have e0:wi.cell? ⟨x1,o1+m*3,none⟩=some (.int .i64 x.id):=hc1 0 _ rfl
       have e1:wi.cell? ⟨x1,o1+m*3+1,none⟩=some (.string x.key):=hc1 1 _ rfl
       have f0:wi.cell? ⟨x1,o1+q*3,none⟩=some (.int .i64 y.id):=hc2 0 _ rfl
       have f1:wi.cell? ⟨x1,o1+q*3+1,none⟩=some (.string y.key):=hc2 1 _ rfl
       have HY:=lH hy
       have hqk:=Nat.lt_trans hlq hlt
       have DUP:eqN x y=true→checkN l=5:=fun he=>by
        unfold checkN
        rw [if_neg (by rw [HL.out];exact h64),HNB.out,if_neg (by simp),if_pos ((dupN_iff l).2 ⟨m,q,x,y,hlq,HX.out,HY.out,he⟩)]
       clear hc1 hc2 hy hx' HC hx1 hx2 hx3
       by_cases d1:x.id=y.id
       ·have HB:=lH (DUP (by unfold eqN;simp [d1]))
        have b1:(x.id==y.id)=true:=by simp [d1]
        clear DUP d1
        go_wp2_with fail
        go_quiet (fail)
        go_wp2_with fail
        go_ret
        exact ⟨by rw [HB.out];rfl,kv.drewN _⟩
       ·have b1:(x.id==y.id)=false:=by simp [d1]
        by_cases d2:x.key=y.key
        ·have b2:=str_eqN d2
         have HB:=lH (DUP (by unfold eqN;rw [b2];simp))
         clear DUP d1 d2
         go_wp2_with fail
         go_quiet (fail)
         go_wp2_with fail
         go_ret
         exact ⟨by rw [HB.out];rfl,kv.drewN _⟩
        ·have b2:=str_neN d2
         have HB:Hid (eqN x y=false):=lH (by unfold eqN;rw [b1,b2];rfl)
         clear DUP d1 d2
         go_wp2_with fail
         go_quiet (fail)
         go_wp2_with fail
         refine ⟨⟨q+1,by omega,by go_num,kv.drewN _,fun k' y' hk' hy'=>?_⟩,by simp [intOf];omega⟩
         rcases Nat.lt_or_ge k' q with h | h
         ·exact HO.out k' y' h hy'
         ·obtain rfl:k'=q:=by omega
          rw [Option.some.inj (hy'.symm.trans HY.out)]
          exact HB.out
      ·obtain rfl:q=m:=by omega
       clear hlq hq HC
       go_wp2_with fail
       refine ⟨⟨q+1,by omega,by go_num,kv,fun i' k' x' y' hi' hk' hx' hy'=>?_⟩,by simp [intOf];omega⟩
       rcases Nat.lt_or_ge i' q with h | h
       ·exact HG.out i' k' x' y' h hk' hx' hy'
       ·obtain rfl:i'=q:=by omega
        rw [Option.some.inj (hx'.symm.trans HX.out)]
        exact HO.out k' y' hk' hy'
    ·obtain rfl:m=k:=by omega
     have HC:Hid (checkN l=0):=lH (by
      unfold checkN
      rw [if_neg (by rw [HL.out];exact h64),HNB.out,if_neg (by simp),if_neg]
      intro hd
      obtain ⟨i,k,x,y,hk,hx,hy,he⟩:=(dupN_iff l).1 hd
      rw [HG.out i k x y (by have:=(List.getElem?_eq_some_iff.1 hx).1;have:=HL.out;omega) hk hx hy] at he
      cases he)
     clear HG hlt hm HNB
     go_wp2_with fail
     go_ret
     exact ⟨by rw [HC.out];rfl,kw⟩
theorem is_r (a:Option Addr) (n c:Nat) (l:List Nd) (w:World) (h:Sl 3 encN w a n l) (hn:n≤1000000) :
  Calls Tryz.prog 47 #[.slice a n c] w fun e w'=>e=.returned (.bool (checkN l==0))∧Ex w w':=by
 go_enter Tryz.func47,Tryz.ntmps47
 go_wp2_with fail
 refine (check_r a n c l w h hn).mono ?_
 rintro e w1 ⟨rfl,kk⟩
 clear h
 go_wp2_with fail
 go_ret
 exact ⟨rfl,kk⟩
def gtN (a b:Nd):Bool:=!(Op.bytesLess a.key.toList b.key.toList||a.key.toList==b.key.toList)||(a.key.toList==b.key.toList&&decide (b.id<a.id))
def atN (out:List Nd) (x:Nd):Nat→Nat
 | 0=>0
 | n+1=>match out[n]? with
  | some y=>if gtN y x then atN out x n else n+1
  | none=>n+1
theorem atN_le (out:List Nd) (x:Nd):∀ n,atN out x n≤n
 | 0=>Nat.le_refl _
 | n+1=>by
  unfold atN
  split
  ·split
   ·exact Nat.le_succ_of_le (atN_le out x n)
   ·exact Nat.le_refl _
  ·exact Nat.le_refl _
def insN (out:List Nd) (x:Nd):List Nd:=out.take (atN out x out.length)++x::out.drop (atN out x out.length)
def sortN (l:List Nd):List Nd:=l.foldl insN []
theorem sortN_snoc (l:List Nd) (k:Nat) (y:Nd) (hy:l[k]?=some y):sortN (l.take (k+1))=insN (sortN (l.take k)) y:=by
 unfold sortN
 rw [take_snocN l k y hy,List.foldl_append]
 rfl
theorem insN_length (out:List Nd) (x:Nd):(insN out x).length=out.length+1:=by
 unfold insN
 have:=atN_le out x out.length
 simp;omega
theorem sortN_length (l:List Nd):(sortN l).length=l.length:=by
 have:∀ (l out:List Nd),(l.foldl insN out).length=out.length+l.length:=by
  intro l
  induction l with
  | nil=>intro out;rfl
  | cons x r ih=>intro out;rw [List.foldl_cons,ih,insN_length,List.length_cons];omega
 have:=this l []
 simpa [sortN] using this
theorem flat_set3 (x:Nd):∀ (L:List Nd) (j:Nat),j<L.length→(L.set j x).flatMap encN=(((L.flatMap encN).set (j*3) (.int .i64 x.id)).set (j*3+1) (.string x.key)).set (j*3+2) (.int .u32 x.word)
 | [],j,h=>by simp at h
 | y::r,0,_=>rfl
 | y::r,j+1,h=>by
  have ih:=flat_set3 x r j (by simpa using h)
  rw [List.set_cons_succ,List.flatMap_cons,List.flatMap_cons,ih]
  have e:(j+1)*3=j*3+3:=by omega
  rw [e]
  show encN y++_=((([Value.int .i64 y.id,.string y.key,.int .u32 y.word]++r.flatMap encN).set (j*3+3) _).set (j*3+3+1) _).set (j*3+3+2) _
  rw [List.set_append_right _ _ (by simp),List.set_append_right _ _ (by simp [Nat.add_assoc]),List.set_append_right _ _ (by simp [Nat.add_assoc])]
  simp only [List.length_cons,List.length_nil]
  rw [show j*3+3-(0+1+1+1)=j*3 by omega,show j*3+3+1-(0+1+1+1)=j*3+1 by omega,show j*3+3+2-(0+1+1+1)=j*3+2 by omega]
  rfl
theorem own_set3 {e:TypeId} {base:Nat} {w:World} {g n cap j:Nat} {L:List Nd} (h:OwnL 3 encN e base w (.slice (some ⟨g,0,none⟩) n cap) L) (hj:j<n) (y:Nd) :
  (∃ a b c,w.cell? ⟨g,j*3,none⟩=some a∧w.cell? ⟨g,j*3+1,none⟩=some b∧w.cell? ⟨g,j*3+1+1,none⟩=some c)∧(∀ o,w.frozen? ⟨g,o,none⟩=false) ∧
  OwnL 3 encN e base (((w.setCell ⟨g,j*3,none⟩ (.int .i64 y.id)).setCell ⟨g,j*3+1,none⟩ (.string y.key)).setCell ⟨g,j*3+2,none⟩ (.int .u32 y.word)) (.slice (some ⟨g,0,none⟩) n cap) (L.set j y):=by
 rcases h.2 with ⟨h1,_⟩ | ⟨g',cap',cur,e1,e2,e3,e4,e5,e6,e7⟩
 ·cases h1
 ·obtain ⟨rfl,hLn,rfl⟩:g=g'∧n=L.length∧cap=cap':=by simpa using e1
  have hsz:j*3+2<cur.size:=by rw [e6];omega
  have s1:=heap_set e3 (j*3) (.int .i64 y.id)
  have s2:=heap_set s1 (j*3+1) (.string y.key)
  have s3:=heap_set s2 (j*3+2) (.int .u32 y.word)
  refine ⟨⟨cur[j*3],cur[j*3+1],cur[j*3+1+1],by simp [World.cell?,e3],by simp [World.cell?,e3],by simp [World.cell?,e3]⟩,fun o=>by simp [World.frozen?,e3],?_,.inr ⟨g,cap,_,by simp [hLn],e2,s3,?_,e5,by simp [e6],?_⟩⟩
  ·rw [flatN_len (sz:=3) (fun _=>rfl)]
  ·rw [List.length_set,← hLn];omega
  ·rw [flat_set3 y L j (by omega),← e7,List.length_set]
   simp only [Array.toList_setIfInBounds,List.take_set]
theorem bytesLess_irrefl:∀ x:List UInt8,Op.bytesLess x x=false
 | []=>rfl
 | a::x=>by unfold Op.bytesLess;rw [bytesLess_irrefl x];simp
theorem shift_set (out:List Nd) (y:Nd) (j:Nat) (hj:j≤out.length) (L7:List Nd) (hL:L7=out++[(⟨0,ByteArray.empty,0⟩:Nd)]) :
  (L7.take (j+1)++(L7.drop j).take (out.length-j)).set j y=L7.take j++y::out.drop j:=by
 have hl:L7.length=out.length+1:=by rw [hL];simp
 have h1:(L7.drop j).take (out.length-j)=out.drop j:=by
  rw [hL,List.drop_append_of_le_length hj,List.take_append_of_le_length (by simp),List.take_of_length_le (by simp)]
 have h2:L7.take (j+1)=L7.take j++[L7[j]'(by omega)]:=by rw [List.take_succ_eq_append_getElem (by omega)]
 rw [h1,h2,List.append_assoc,List.set_append_right _ _ (by simp;omega)]
 congr 1
 have:j-(L7.take j).length=0:=by simp;omega
 rw [this]
 rfl
def SoRel (l:List Nd) (n:Nat) (w:World) (o i:Value) (wr:World):Prop :=
 ∃ k:Nat,k≤n∧i=.int .i64 k∧OwnL 3 encN 60 w.heap.size wr o (sortN (l.take k))∧Ex w wr
def AtRel (out:List Nd) (x:Nd) (w:World) (j:Value) (wr:World):Prop :=
 ∃ k:Nat,k≤out.length∧j=.int .i64 k∧atN out x out.length=atN out x k∧Ex w wr
set_option maxRecDepth 100000 in
set_option maxHeartbeats 4000000 in
theorem sort_r (a:Option Addr) (n cp:Nat) (l:List Nd) (w:World) (h:Sl 3 encN w a n l) (hn:n≤1000) :
  Calls Tryz.prog 118 #[.slice a n cp] w (NodesPost (sortN l) w):=by
 have HL:=lH h.len
 have hs:=lH h
 clear h
 go_enter Tryz.func118,Tryz.ntmps118
 go_wp2_with fail
 go_loopw [3,4] (fun o i wr=>SoRel l n w o i wr) (fun _ i _=>n-(intOf i).toNat)
 case atStart=>exact ⟨0,by omega,rfl,OwnL.nil _ _ _ _ _,Ex.refl _⟩
 case round =>
  obtain ⟨k,hk,rfl,own,kw⟩:=hrel
  obtain ⟨wo,rfl⟩:∃ wo:World,wo=wr:=⟨_,rfl⟩
  by_cases hlt:k<n
  ·obtain ⟨x1,o1,y,rfl,hx1,hy,hc1⟩:=(hs.out.nx kw).at hlt
   have e0:wo.cell? ⟨x1,o1+k*3,none⟩=some (.int .i64 y.id):=hc1 0 _ rfl
   have e1:wo.cell? ⟨x1,o1+k*3+1,none⟩=some (.string y.key):=hc1 1 _ rfl
   have e2:wo.cell? ⟨x1,o1+k*3+1+1,none⟩=some (.int .u32 y.word):=by simpa [Nat.add_assoc] using hc1 2 _ rfl
   have FSn:=lH (sortN_snoc l k y hy)
   have hFL:(sortN (l.take k)).length=k:=by rw [sortN_length,List.length_take,HL.out];omega
   generalize sortN (l.take k)=out at own FSn hFL
   obtain ⟨a3,cap3,rfl,r3,c3,m3,nil3⟩:=own.slf (fun _=>rfl)
   have hol:out.length≤1000:=by omega
   have HY:=lH hy
   have HFL:=lH hFL
   have OWN:=lH own
   have NIL:=lH nil3
   have E0:=lH e0
   have E1:=lH e1
   have E2:=lH e2
   clear own hc1 hy e0 e1 e2 nil3 hFL
   go_wp2_with fail
   go_loopw [5] (fun j wr=>AtRel out y wo j wr) (fun j _=>(intOf j).toNat)
   case atStart=>exact ⟨out.length,Nat.le_refl _,rfl,rfl,Ex.refl _⟩
   case round =>
    obtain ⟨j,hj,rfl,hat,ki⟩:=hrel
    have HAT:=lH hat
    obtain ⟨wi,rfl⟩:∃ wi:World,wi=wr:=⟨_,rfl⟩
    clear hat
    have hz0:=ki.size
    by_cases hj0:0<j
    ·obtain ⟨x2,o2,z,rfl,hx2,hzz,hc2⟩:=((r3.sl).nx ki).at (j:=j-1) (by omega)
     have f0:wi.cell? ⟨x2,o2+(j-1)*3,none⟩=some (.int .i64 z.id):=hc2 0 _ rfl
     have f1:wi.cell? ⟨x2,o2+(j-1)*3+1,none⟩=some (.string z.key):=hc2 1 _ rfl
     have g0:=Chg.cellv ki E0.out hx1
     have g1:=Chg.cellv ki E1.out hx1
     have hj1:(j:Int)-1=((j-1:Nat):Int):=by omega
     have ZZ:=lH hzz
     have STOP:gtN z y=false→atN out y out.length=j:=fun h=>by
      rw [HAT.out]
      obtain ⟨m,rfl⟩:∃ m,j=m+1:=⟨j-1,by omega⟩
      unfold atN
      rw [show m=m+1-1 from rfl,ZZ.out]
      simp [h]
     have GOON:gtN z y=true→atN out y out.length=atN out y (j-1):=fun h=>by
      rw [HAT.out]
      obtain ⟨m,rfl⟩:∃ m,j=m+1:=⟨j-1,by omega⟩
      conv=>lhs;unfold atN
      rw [show out[m]?=some z from ZZ.out]
      simp [h]
     have GT:gtN z y=(!(Op.bytesLess z.key.toList y.key.toList||z.key.toList==y.key.toList)||(z.key.toList==y.key.toList&&decide (y.id<z.id))):=rfl
     clear hc2 hzz
     cases hb:Op.bytesLess z.key.toList y.key.toList with
     | true =>
      have he:(z.key.toList==y.key.toList)=false:=by
       cases he:(z.key.toList==y.key.toList) with
       | false=>rfl
       | true=>rw [eq_of_beq he,bytesLess_irrefl] at hb;cases hb
      have HAT':=lH (STOP (by rw [GT,hb,he];rfl))
      clear STOP GOON GT
      go_wp2_with fail
      go_quiet (fail)
      clear f0 f1 g0 g1 hb he
      have hz:w.heap.size≤wi.heap.size:=Nat.le_trans kw.size ki.size
      go_upto_region 9 with (at_builtin;(refine wpList_append_lit (enc:=encN) _ rfl _ _ 23 rfl w.heap.size 60 (.agg #[.int .i64 0,.string ByteArray.empty,.int .u32 0]) 3 32 Tryz.underlying23 Tryz.infoN rfl (by omega) (by omega) _ _ (OWN.out.nx (ki.drewN _)) rfl (⟨0,ByteArray.empty,0⟩:Nd) _ rfl rfl (by simp [encN,Value.oneCell']) _ (by simp) rfl (by omega) (by exact hz) _ ?_);intro v7 w7 own7 _ ch1 _)
      have k7:Ex w w7:=Chg.trans (kw.nx (ki.drewN _)) ch1
      obtain ⟨L7,hL7⟩:∃ L7,L7=out++[(⟨0,ByteArray.empty,0⟩:Nd)]:=⟨_,rfl⟩
      rw [← hL7] at own7
      have hl7:L7.length=out.length+1:=by rw [hL7];simp
      obtain ⟨A7,cap7,rfl,_,c7,m7,some7⟩:=own7.rd (fun _=>rfl)
      obtain ⟨g7,rfl,hg7⟩:=some7 (by intro h0;rw [h0] at hl7;simp at hl7)
      rw [hl7] at own7 c7 ⊢
      have STEP:Hid (insN out y=L7.take j++y::out.drop j):=lH (by unfold insN;rw [HAT'.out,hL7,List.take_append_of_le_length hj])
      have SH:Hid ((L7.take (j+1)++(L7.drop j).take (out.length-j)).set j y=L7.take j++y::out.drop j):=lH (shift_set out y j hj L7 hL7)
      have hcj:(j:Int)+1≤(cap7:Int):=by omega
      have hcj2:j+1≤cap7:=by omega
      have hjo:(j:Int)≤(out.length:Int):=by omega
      have jw:IntKind.i64.wrap ((j:Int)+1)=(j:Int)+1:=IntWalk.i64_in _ (by omega)
      have j0':(0:Int)≤(j:Int)+1:=by omega
      have jt:((j:Int)+1).toNat=j+1:=by omega
      have jc:¬ cap7=j:=by omega
      have hjo2:(j:Int)≤(out.length:Int)+1:=by omega
      clear hL7 hl7 some7 ch1 hz ki HAT'
      go_wp2_with fail
      refine wp_region_held_drew (S:=fun _=>True) (by kernel_rfl) (trivial) (fun hHeld=>?_)
      refine tkH 0 (v:=?_) rfl (by kernel_rfl) (fun _ _ _ h=>h) (by rfl) ?y1x0q1 (by assumption) ?z1x0q1
      case y1x0q1=>intro wq hSw;(go_simp);(try with_reducible rfl)
      try simp only [Act.put,sA,sB,sC]
      refine tkH 1 (v:=?_) rfl (by kernel_rfl) (fun _ _ _ h=>h) (by rfl) ?y1x1q4 (by assumption) ?z1x1q4
      case y1x1q4=>intro wq hSw;(go_simp);(try with_reducible rfl)
      try simp only [Act.put,sA,sB,sC]
      refine tkH 2 (v:=?_) rfl (by kernel_rfl) (fun _ _ _ h=>h) (by rfl) ?y1x2q7 (by assumption) ?z1x2q7
      case y1x2q7=>intro wq hSw;(go_simp);(try with_reducible rfl)
      try simp only [Act.put,sA,sB,sC]
      refine tkH 3 (v:=?_) rfl (by kernel_rfl) (fun _ _ _ h=>h) (by rfl) ?y1x3q10 (by assumption) ?z1x3q10
      case y1x3q10=>intro wq hSw;(go_simp);(try with_reducible rfl)
      try simp only [Act.put,sA,sB,sC]
      refine tkH 4 (v:=?_) rfl (by kernel_rfl) (fun _ _ _ h=>h) (by rfl) ?y1x4q13 (by assumption) ?z1x4q13
      case y1x4q13=>intro wq hSw;(go_simp);(try with_reducible rfl)
      try simp only [Act.put,sA,sB,sC]
      refine tkH 5 (v:=?_) rfl (by kernel_rfl) (fun _ _ _ h=>h) (by rfl) ?y1x5q16 (by assumption) ?z1x5q16
      case y1x5q16=>intro wq hSw;(go_simp);(try with_reducible rfl)
      try simp only [Act.put,sA,sB,sC]
      refine tkH 6 (v:=?_) rfl (by kernel_rfl) (fun _ _ _ h=>h) (by rfl) ?y1x6q19 (by assumption) ?z1x6q19
      case y1x6q19=>intro wq hSw;(go_simp);(try with_reducible rfl)
      try simp only [Act.put,sA,sB,sC]
      refine wpAnyH_ready (rs:=[7]) (by kernel_rfl) (by simp) ?_
      refine AllReadyH.cons (o:=⟨_,_,_,_,_,_⟩) rfl (fun K hK=>?_) AllReadyH.nil
      rw [if_pos (by rfl)]
      refine wp_copy_shift (enc:=encN) (sz:=3) _ (.tmp 67) (.tmp 70) 23 rfl w.heap.size 60 Tryz.underlying23 (by kernel_rfl) (fun _=>rfl) (by simp [encN,Value.oneCell']) g7 out.length cap7 j L7 own7 hj _ _ _ _ rfl rfl (fun hlt=>⟨by rw [if_neg (by omega)],rfl⟩) ?_
      intro w8 own8 ch8 sz8
      refine hK.out _ _ (trivial) (fun hHeld=>?_)
      clear hK K
      try simp only [Act.put,sA,sB,sC]
      refine wpAnyH_done (by kernel_rfl) ?_ _
      have k8:Ex w w8:=Chg.trans k7.drew (ch8.mono (fun x (hx:x<w.heap.size)=>by omega))
      obtain ⟨x5,o5,y5,he5,hx5,hy5,hc5⟩:=(hs.out.nx k8).at hlt
      cases he5
      obtain rfl:y=y5:=Option.some.inj (HY.out.symm.trans hy5)
      have b0:w8.cell? ⟨x1,o1+k*3,none⟩=some (.int .i64 y.id):=hc5 0 _ rfl
      have b1:w8.cell? ⟨x1,o1+k*3+1,none⟩=some (.string y.key):=hc5 1 _ rfl
      have b2:w8.cell? ⟨x1,o1+k*3+1+1,none⟩=some (.int .u32 y.word):=by simpa [Nat.add_assoc] using hc5 2 _ rfl
      obtain ⟨⟨va,vb,vc,d0,d1,d2⟩,fz,OS⟩:=own_set3 own8 (j:=j) (by omega) y
      have fz0:=fz (j*3)
      have fz1:=fz (j*3+1)
      have fz2:=fz (j*3+1+1)
      clear hc5 hy5 own8 ch8 fz
      go_wp2_with fail
      exact ⟨⟨k+1,by omega,by go_num,by rw [FSn.out,STEP.out,← SH.out];exact OS,((k8.setNew (p:=⟨g7,j*3,none⟩) _ hg7).setNew (p:=⟨g7,j*3+1,none⟩) _ hg7).setNew (p:=⟨g7,j*3+2,none⟩) _ hg7⟩,by simp [intOf];omega⟩
     | false =>
      cases he:(z.key.toList==y.key.toList) with
      | true =>
       by_cases hid:y.id<z.id
       ·have hN:=lH (GOON (by rw [GT];simp [hb,he,hid]))
        clear STOP GOON GT
        go_wp2_with fail
        go_quiet (fail)
        go_wp2_with fail
        exact ⟨⟨j-1,by omega,by first | rfl | rw [hj1],hN.out,ki.drewN _⟩,by simp [intOf];omega⟩
       ·have HAT':=lH (STOP (by rw [GT];simp [hb,he,hid]))
        clear STOP GOON GT
        go_wp2_with fail
        go_quiet (fail)
        clear f0 f1 g0 g1
        have hz:w.heap.size≤wi.heap.size:=Nat.le_trans kw.size ki.size
        go_upto_region 9 with (at_builtin;(refine wpList_append_lit (enc:=encN) _ rfl _ _ 23 rfl w.heap.size 60 (.agg #[.int .i64 0,.string ByteArray.empty,.int .u32 0]) 3 32 Tryz.underlying23 Tryz.infoN rfl (by omega) (by omega) _ _ (OWN.out.nx (ki.drewN _)) rfl (⟨0,ByteArray.empty,0⟩:Nd) _ rfl rfl (by simp [encN,Value.oneCell']) _ (by simp) rfl (by omega) (by exact hz) _ ?_);intro v7 w7 own7 _ ch1 _)
        have k7:Ex w w7:=Chg.trans (kw.nx (ki.drewN _)) ch1
        obtain ⟨L7,hL7⟩:∃ L7,L7=out++[(⟨0,ByteArray.empty,0⟩:Nd)]:=⟨_,rfl⟩
        rw [← hL7] at own7
        have hl7:L7.length=out.length+1:=by rw [hL7];simp
        obtain ⟨A7,cap7,rfl,_,c7,m7,some7⟩:=own7.rd (fun _=>rfl)
        obtain ⟨g7,rfl,hg7⟩:=some7 (by intro h0;rw [h0] at hl7;simp at hl7)
        rw [hl7] at own7 c7 ⊢
        have STEP:Hid (insN out y=L7.take j++y::out.drop j):=lH (by unfold insN;rw [HAT'.out,hL7,List.take_append_of_le_length hj])
        have SH:Hid ((L7.take (j+1)++(L7.drop j).take (out.length-j)).set j y=L7.take j++y::out.drop j):=lH (shift_set out y j hj L7 hL7)
        have hcj:(j:Int)+1≤(cap7:Int):=by omega
        have hcj2:j+1≤cap7:=by omega
        have hjo:(j:Int)≤(out.length:Int):=by omega
        have jw:IntKind.i64.wrap ((j:Int)+1)=(j:Int)+1:=IntWalk.i64_in _ (by omega)
        have j0':(0:Int)≤(j:Int)+1:=by omega
        have jt:((j:Int)+1).toNat=j+1:=by omega
        have jc:¬ cap7=j:=by omega
        have hjo2:(j:Int)≤(out.length:Int)+1:=by omega
        clear hL7 hl7 some7 ch1 hz ki HAT'
        go_wp2_with fail
        refine wp_region_held_drew (S:=fun _=>True) (by kernel_rfl) (trivial) (fun hHeld=>?_)
        refine tkH 0 (v:=?_) rfl (by kernel_rfl) (fun _ _ _ h=>h) (by rfl) ?y2x0q1 (by assumption) ?z2x0q1
        case y2x0q1=>intro wq hSw;(go_simp);(try with_reducible rfl)
        try simp only [Act.put,sA,sB,sC]
        refine tkH 1 (v:=?_) rfl (by kernel_rfl) (fun _ _ _ h=>h) (by rfl) ?y2x1q4 (by assumption) ?z2x1q4
        case y2x1q4=>intro wq hSw;(go_simp);(try with_reducible rfl)
        try simp only [Act.put,sA,sB,sC]
        refine tkH 2 (v:=?_) rfl (by kernel_rfl) (fun _ _ _ h=>h) (by rfl) ?y2x2q7 (by assumption) ?z2x2q7
        case y2x2q7=>intro wq hSw;(go_simp);(try with_reducible rfl)
        try simp only [Act.put,sA,sB,sC]
        refine tkH 3 (v:=?_) rfl (by kernel_rfl) (fun _ _ _ h=>h) (by rfl) ?y2x3q10 (by assumption) ?z2x3q10
        case y2x3q10=>intro wq hSw;(go_simp);(try with_reducible rfl)
        try simp only [Act.put,sA,sB,sC]
        refine tkH 4 (v:=?_) rfl (by kernel_rfl) (fun _ _ _ h=>h) (by rfl) ?y2x4q13 (by assumption) ?z2x4q13
        case y2x4q13=>intro wq hSw;(go_simp);(try with_reducible rfl)
        try simp only [Act.put,sA,sB,sC]
        refine tkH 5 (v:=?_) rfl (by kernel_rfl) (fun _ _ _ h=>h) (by rfl) ?y2x5q16 (by assumption) ?z2x5q16
        case y2x5q16=>intro wq hSw;(go_simp);(try with_reducible rfl)
        try simp only [Act.put,sA,sB,sC]
        refine tkH 6 (v:=?_) rfl (by kernel_rfl) (fun _ _ _ h=>h) (by rfl) ?y2x6q19 (by assumption) ?z2x6q19
        case y2x6q19=>intro wq hSw;(go_simp);(try with_reducible rfl)
        try simp only [Act.put,sA,sB,sC]
        refine wpAnyH_ready (rs:=[7]) (by kernel_rfl) (by simp) ?_
        refine AllReadyH.cons (o:=⟨_,_,_,_,_,_⟩) rfl (fun K hK=>?_) AllReadyH.nil
        rw [if_pos (by rfl)]
        refine wp_copy_shift (enc:=encN) (sz:=3) _ (.tmp 67) (.tmp 70) 23 rfl w.heap.size 60 Tryz.underlying23 (by kernel_rfl) (fun _=>rfl) (by simp [encN,Value.oneCell']) g7 out.length cap7 j L7 own7 hj _ _ _ _ rfl rfl (fun hlt=>⟨by rw [if_neg (by omega)],rfl⟩) ?_
        intro w8 own8 ch8 sz8
        refine hK.out _ _ (trivial) (fun hHeld=>?_)
        clear hK K
        try simp only [Act.put,sA,sB,sC]
        refine wpAnyH_done (by kernel_rfl) ?_ _
        have k8:Ex w w8:=Chg.trans k7.drew (ch8.mono (fun x (hx:x<w.heap.size)=>by omega))
        obtain ⟨x5,o5,y5,he5,hx5,hy5,hc5⟩:=(hs.out.nx k8).at hlt
        cases he5
        obtain rfl:y=y5:=Option.some.inj (HY.out.symm.trans hy5)
        have b0:w8.cell? ⟨x1,o1+k*3,none⟩=some (.int .i64 y.id):=hc5 0 _ rfl
        have b1:w8.cell? ⟨x1,o1+k*3+1,none⟩=some (.string y.key):=hc5 1 _ rfl
        have b2:w8.cell? ⟨x1,o1+k*3+1+1,none⟩=some (.int .u32 y.word):=by simpa [Nat.add_assoc] using hc5 2 _ rfl
        obtain ⟨⟨va,vb,vc,d0,d1,d2⟩,fz,OS⟩:=own_set3 own8 (j:=j) (by omega) y
        have fz0:=fz (j*3)
        have fz1:=fz (j*3+1)
        have fz2:=fz (j*3+1+1)
        clear hc5 hy5 own8 ch8 fz
        go_wp2_with fail
        exact ⟨⟨k+1,by omega,by go_num,by rw [FSn.out,STEP.out,← SH.out];exact OS,((k8.setNew (p:=⟨g7,j*3,none⟩) _ hg7).setNew (p:=⟨g7,j*3+1,none⟩) _ hg7).setNew (p:=⟨g7,j*3+2,none⟩) _ hg7⟩,by simp [intOf];omega⟩
      | false =>
       have hN:=lH (GOON (by rw [GT];simp [hb,he]))
       clear STOP GOON GT
       go_wp2_with fail
       go_quiet (fail)
       go_wp2_with fail
       exact ⟨⟨j-1,by omega,by first | rfl | rw [hj1],hN.out,ki.drewN _⟩,by simp [intOf];omega⟩
    ·have HAT':Hid (atN out y out.length=j):=lH (by rw [HAT.out,show j=0 by omega];simp [atN])
     go_wp2_with fail
     go_quiet (fail)
     have hz:w.heap.size≤wi.heap.size:=Nat.le_trans kw.size ki.size
     go_upto_region 9 with (at_builtin;(refine wpList_append_lit (enc:=encN) _ rfl _ _ 23 rfl w.heap.size 60 (.agg #[.int .i64 0,.string ByteArray.empty,.int .u32 0]) 3 32 Tryz.underlying23 Tryz.infoN rfl (by omega) (by omega) _ _ (OWN.out.nx (ki.drewN _)) rfl (⟨0,ByteArray.empty,0⟩:Nd) _ rfl rfl (by simp [encN,Value.oneCell']) _ (by simp) rfl (by omega) (by exact hz) _ ?_);intro v7 w7 own7 _ ch1 _)
     have k7:Ex w w7:=Chg.trans (kw.nx (ki.drewN _)) ch1
     obtain ⟨L7,hL7⟩:∃ L7,L7=out++[(⟨0,ByteArray.empty,0⟩:Nd)]:=⟨_,rfl⟩
     rw [← hL7] at own7
     have hl7:L7.length=out.length+1:=by rw [hL7];simp
     obtain ⟨A7,cap7,rfl,_,c7,m7,some7⟩:=own7.rd (fun _=>rfl)
     obtain ⟨g7,rfl,hg7⟩:=some7 (by intro h0;rw [h0] at hl7;simp at hl7)
     rw [hl7] at own7 c7 ⊢
     have STEP:Hid (insN out y=L7.take j++y::out.drop j):=lH (by unfold insN;rw [HAT'.out,hL7,List.take_append_of_le_length hj])
     have SH:Hid ((L7.take (j+1)++(L7.drop j).take (out.length-j)).set j y=L7.take j++y::out.drop j):=lH (shift_set out y j hj L7 hL7)
     have hcj:(j:Int)+1≤(cap7:Int):=by omega
     have hcj2:j+1≤cap7:=by omega
     have hjo:(j:Int)≤(out.length:Int):=by omega
     have jw:IntKind.i64.wrap ((j:Int)+1)=(j:Int)+1:=IntWalk.i64_in _ (by omega)
     have j0':(0:Int)≤(j:Int)+1:=by omega
     have jt:((j:Int)+1).toNat=j+1:=by omega
     have jc:¬ cap7=j:=by omega
     have hjo2:(j:Int)≤(out.length:Int)+1:=by omega
     clear hL7 hl7 some7 ch1 hz ki HAT'
     go_wp2_with fail
     refine wp_region_held_drew (S:=fun _=>True) (by kernel_rfl) (trivial) (fun hHeld=>?_)
     refine tkH 0 (v:=?_) rfl (by kernel_rfl) (fun _ _ _ h=>h) (by rfl) ?y3x0q1 (by assumption) ?z3x0q1
     case y3x0q1=>intro wq hSw;(go_simp);(try with_reducible rfl)
     try simp only [Act.put,sA,sB,sC]
     refine tkH 1 (v:=?_) rfl (by kernel_rfl) (fun _ _ _ h=>h) (by rfl) ?y3x1q4 (by assumption) ?z3x1q4
     case y3x1q4=>intro wq hSw;(go_simp);(try with_reducible rfl)
     try simp only [Act.put,sA,sB,sC]
     refine tkH 2 (v:=?_) rfl (by kernel_rfl) (fun _ _ _ h=>h) (by rfl) ?y3x2q7 (by assumption) ?z3x2q7
     case y3x2q7=>intro wq hSw;(go_simp);(try with_reducible rfl)
     try simp only [Act.put,sA,sB,sC]
     refine tkH 3 (v:=?_) rfl (by kernel_rfl) (fun _ _ _ h=>h) (by rfl) ?y3x3q10 (by assumption) ?z3x3q10
     case y3x3q10=>intro wq hSw;(go_simp);(try with_reducible rfl)
     try simp only [Act.put,sA,sB,sC]
     refine tkH 4 (v:=?_) rfl (by kernel_rfl) (fun _ _ _ h=>h) (by rfl) ?y3x4q13 (by assumption) ?z3x4q13
     case y3x4q13=>intro wq hSw;(go_simp);(try with_reducible rfl)
     try simp only [Act.put,sA,sB,sC]
     refine tkH 5 (v:=?_) rfl (by kernel_rfl) (fun _ _ _ h=>h) (by rfl) ?y3x5q16 (by assumption) ?z3x5q16
     case y3x5q16=>intro wq hSw;(go_simp);(try with_reducible rfl)
     try simp only [Act.put,sA,sB,sC]
     refine tkH 6 (v:=?_) rfl (by kernel_rfl) (fun _ _ _ h=>h) (by rfl) ?y3x6q19 (by assumption) ?z3x6q19
     case y3x6q19=>intro wq hSw;(go_simp);(try with_reducible rfl)
     try simp only [Act.put,sA,sB,sC]
     refine wpAnyH_ready (rs:=[7]) (by kernel_rfl) (by simp) ?_
     refine AllReadyH.cons (o:=⟨_,_,_,_,_,_⟩) rfl (fun K hK=>?_) AllReadyH.nil
     rw [if_pos (by rfl)]
     refine wp_copy_shift (enc:=encN) (sz:=3) _ (.tmp 67) (.tmp 70) 23 rfl w.heap.size 60 Tryz.underlying23 (by kernel_rfl) (fun _=>rfl) (by simp [encN,Value.oneCell']) g7 out.length cap7 j L7 own7 hj _ _ _ _ rfl rfl (fun hlt=>⟨by rw [if_neg (by omega)],rfl⟩) ?_
     intro w8 own8 ch8 sz8
     refine hK.out _ _ (trivial) (fun hHeld=>?_)
     clear hK K
     try simp only [Act.put,sA,sB,sC]
     refine wpAnyH_done (by kernel_rfl) ?_ _
     have k8:Ex w w8:=Chg.trans k7.drew (ch8.mono (fun x (hx:x<w.heap.size)=>by omega))
     obtain ⟨x5,o5,y5,he5,hx5,hy5,hc5⟩:=(hs.out.nx k8).at hlt
     cases he5
     obtain rfl:y=y5:=Option.some.inj (HY.out.symm.trans hy5)
     have b0:w8.cell? ⟨x1,o1+k*3,none⟩=some (.int .i64 y.id):=hc5 0 _ rfl
     have b1:w8.cell? ⟨x1,o1+k*3+1,none⟩=some (.string y.key):=hc5 1 _ rfl
     have b2:w8.cell? ⟨x1,o1+k*3+1+1,none⟩=some (.int .u32 y.word):=by simpa [Nat.add_assoc] using hc5 2 _ rfl
     obtain ⟨⟨va,vb,vc,d0,d1,d2⟩,fz,OS⟩:=own_set3 own8 (j:=j) (by omega) y
     have fz0:=fz (j*3)
     have fz1:=fz (j*3+1)
     have fz2:=fz (j*3+1+1)
     clear hc5 hy5 own8 ch8 fz
     go_wp2_with fail
     exact ⟨⟨k+1,by omega,by go_num,by rw [FSn.out,STEP.out,← SH.out];exact OS,((k8.setNew (p:=⟨g7,j*3,none⟩) _ hg7).setNew (p:=⟨g7,j*3+1,none⟩) _ hg7).setNew (p:=⟨g7,j*3+2,none⟩) _ hg7⟩,by simp [intOf];omega⟩
  ·obtain rfl:k=n:=by omega
   rw [List.take_of_length_le (by rw [HL.out];exact Nat.le_refl _)] at own
   obtain ⟨a3,cap3,rfl,r3,c3,m3,nil3⟩:=own.slf (fun _=>rfl)
   clear own hk
   go_wp2_with fail
   go_ret
   exact ⟨a3,_,cap3,rfl,r3,kw⟩
abbrev Hdr:=Option Addr×Nat×Nat
def Hdr.val (q:Hdr):Value:=.slice q.1 q.2.1 q.2.2
def encH (q:Hdr):List Value:=[q.val]
def LL (w:World) (a:Option Addr) (n:Nat) (C:List (List Nd)):Prop :=
 ∃ qs:List Hdr,Sl 1 encH w a n qs∧C.length=n∧∀ (j:Nat) (q:Hdr) (c:List Nd),qs[j]?=some q→C[j]?=some c→Sl 3 encN w q.1 q.2.1 c
theorem LL.nx {w w':World} {a:Option Addr} {n:Nat} {C:List (List Nd)} (h:LL w a n C) (k:Ex w w'):LL w' a n C:=by
 obtain ⟨qs,h1,h2,h3⟩:=h
 exact ⟨qs,h1.nx k,h2,fun j q c hq hc=>(h3 j q c hq hc).nx k⟩
theorem LL.len {w:World} {a:Option Addr} {n:Nat} {C:List (List Nd)} (h:LL w a n C):C.length=n:=by
 obtain ⟨qs,h1,h2,h3⟩:=h
 exact h2
theorem LL.at {w:World} {a:Option Addr} {n:Nat} {C:List (List Nd)} (h:LL w a n C) {j:Nat} (hj:j<n) :
  ∃ x o a' n' c' c,a=some ⟨x,o,none⟩∧x<w.heap.size∧C[j]?=some c∧w.cell? ⟨x,o+j,none⟩=some (.slice a' n' c')∧Sl 3 encN w a' n' c:=by
 obtain ⟨qs,h1,h2,h3⟩:=h
 obtain ⟨x,o,q,e,hx,hq,hc⟩:=h1.at hj
 obtain ⟨c,hcc⟩:∃ c,C[j]?=some c:=⟨C[j]'(by omega),by simp⟩
 refine ⟨x,o,q.1,q.2.1,q.2.2,c,e,hx,hcc,?_,h3 j q c hq hcc⟩
 have:=hc 0 _ rfl
 rw [Nat.mul_one,Nat.add_zero] at this
 exact this
theorem LL.nil (w:World) (a:Option Addr):LL w a 0 []:=⟨[],Sl.nil _ _ _ _,rfl,by intro j q c h;simp at h⟩
def headW (c:List Nd):Nat:=match c with | []=>0 | y::_=>y.word
theorem flatW_len {α:Type} {sz:Nat} {enc:α→List Value} (h:∀ y,(enc y).length=sz) (l:List α):(l.flatMap enc).length=l.length*sz:=by
 induction l with
 | nil=>simp
 | cons y r ih=>rw [List.flatMap_cons,List.length_append,h,ih,List.length_cons,Nat.succ_mul];omega
theorem Sl.flatW {α:Type} {sz n:Nat} {enc:α→List Value} {w:World} {x o:Nat} {l:List α} (hlen:∀ y,(enc y).length=sz) (hsz:0<sz) (h:Sl sz enc w (some ⟨x,o,none⟩) n l) :
  ∀ j u,(l.flatMap enc)[j]?=some u→w.cell? ⟨x,o+j,none⟩=some u:=by
 intro j u hu
 have hj:=(List.getElem?_eq_some_iff.1 hu).1
 rcases h.2 with h0 | ⟨x',o',e1,_,e3⟩
 ·have:l=[]:=List.eq_nil_of_length_eq_zero (h.1.trans h0)
  subst this
  simp at hj
 ·cases e1
  have hdiv:∀ (l:List α) (j:Nat),(l.flatMap enc)[j]?=some u→∃ y,l[j / sz]?=some y∧(enc y)[j % sz]?=some u:=by
   intro l
   induction l with
   | nil=>intro j hu;simp at hu
   | cons y r ih =>
    intro j hu
    rw [List.flatMap_cons] at hu
    by_cases hlt:j<sz
    ·rw [List.getElem?_append_left (by rw [hlen];exact hlt)] at hu
     exact ⟨y,by rw [Nat.div_eq_of_lt hlt];rfl,by rw [Nat.mod_eq_of_lt hlt];exact hu⟩
    ·rw [List.getElem?_append_right (by rw [hlen];omega),hlen] at hu
     obtain ⟨y',h1',h2'⟩:=ih (j-sz) hu
     have e1:j / sz=(j-sz) / sz+1:=by rw [Nat.div_eq_sub_div hsz (by omega)]
     have e2:j % sz=(j-sz) % sz:=by rw [Nat.mod_eq_sub_mod (by omega)]
     exact ⟨y',by rw [e1];simpa using h1',by rw [e2];exact h2'⟩
  obtain ⟨y,hy1,hy2⟩:=hdiv l j hu
  have:=e3 _ y hy1 _ u hy2
  rw [Nat.add_assoc,Nat.mul_comm,Nat.div_add_mod] at this
  exact this
section
variable {α:Type} {sz:Nat} {enc:α→List Value} {e:TypeId} {base:Nat} {w w':World} {v:Value} {l:List α}
def OwnW (sz:Nat) (enc:α→List Value) (e:TypeId) (base:Nat) (w:World) (v:Value) (l:List α):Prop :=
 (v=.slice none 0 0∧l=[])∨∃ (g cap:Nat) (cur:Array Value),v=.slice (some ⟨g,0,none⟩) l.length cap∧base≤g∧w.heap[g]?=some (.cells cur e (0,0))∧l.length≤cap∧cap≤maxLen∧cap*sz≤cur.size∧cur.toList.take (l.length*sz)=l.flatMap enc
theorem OwnL.toW (h:OwnL sz enc e base w v l):OwnW sz enc e base w v l:=by
 rcases h.2 with ⟨h1,h2⟩ | ⟨g,cap,cur,h1,h2,h3,h4,h5,h6,h7⟩
 ·exact .inl ⟨h1,List.eq_nil_of_length_eq_zero h2⟩
 ·exact .inr ⟨g,cap,cur,h1,h2,h3,h4,h5,Nat.le_of_eq h6.symm,h7⟩
theorem OwnW.nil (sz:Nat) (enc:α→List Value) (e:TypeId) (base:Nat) (w:World):OwnW sz enc e base w (.slice none 0 0) []:=.inl ⟨rfl,rfl⟩
theorem OwnW.blk (h:OwnW sz enc e base w v l) {g:Nat} (hg:v.ownBlock=some g):base≤g∧∃ cur,w.heap[g]?=some (.cells cur e (0,0)):=by
 rcases h with ⟨rfl,_⟩ | ⟨g',cap,cur,rfl,hb,hh,_⟩
 ·cases hg
 ·obtain rfl:g'=g:=by simpa [Value.ownBlock] using hg
  exact ⟨hb,cur,hh⟩
theorem OwnW.chg (h:OwnW sz enc e base w v l) {S:Nat→Prop} (k:Chg S w w') (hs:∀ x,x<w.heap.size→v.ownBlock=some x→S x):OwnW sz enc e base w' v l:=by
 rcases h with h | ⟨g,cap,cur,rfl,hb,hh,rest⟩
 ·exact .inl h
 ·exact .inr ⟨g,cap,cur,rfl,hb,(k.block g (hs g (heap_lt hh) rfl)).trans hh,rest⟩
theorem OwnW.nx (h:OwnW sz enc e base w v l) (k:Ex w w'):OwnW sz enc e base w' v l:=h.chg k (fun _ hx _=>hx)
theorem OwnW.nxb {b:Nat} (h:OwnW sz enc e base w v l) (hb:b<base) (k:Exb b w w'):OwnW sz enc e base w' v l:=h.chg k (fun x hx hv=>⟨hx,by have:=(h.blk hv).1;omega⟩)
theorem OwnW.lower {base':Nat} (h:OwnW sz enc e base w v l) (hb:base'≤base):OwnW sz enc e base' w v l:=by
 rcases h with h | ⟨g,cap,cur,h1,h2,rest⟩
 ·exact .inl h
 ·exact .inr ⟨g,cap,cur,h1,by omega,rest⟩
theorem OwnW.rd (h:OwnW sz enc e base w v l) (hsz:∀ y,(enc y).length=sz) :
  ∃ a cap,v=.slice a l.length cap∧Rd sz enc (fun k=>base≤k∧k<w.heap.size) w a l.length l∧l.length≤cap∧cap≤maxLen∧(l≠[]→∃ g,a=some ⟨g,0,none⟩∧base≤g)∧(a=none→cap=0):=by
 rcases h with ⟨rfl,rfl⟩ | ⟨g,cap,cur,rfl,hb,hg,h1,h2,h3,h4⟩
 ·exact ⟨none,0,rfl,Rd.nil _ _ _ _ _,by simp,by unfold maxLen;omega,fun h=>absurd rfl h,fun _=>rfl⟩
 ·refine ⟨_,cap,rfl,(Rd.block l hg rfl hsz (fun i u hu=>?_)).mono (fun k hk=>by subst hk;exact ⟨hb,heap_lt hg⟩),h1,h2,fun _=>⟨g,rfl,hb⟩,fun h=>by cases h⟩
  rw [← h4,List.getElem?_take] at hu
  split at hu
  ·simpa using hu
  ·cases hu
theorem wp_append_W {P:Program} {o:Oper} {a:Act} {K:Act→World→Prop} {Q:Exit→Act→World→Prop} (w:World) (s x:Operand) (t:TypeId)
  (ho:o.op=.call { callee:=.builtin .append,args:=#[s,x],argTypes:=#[t,t] })
  (base:Nat) (e:TypeId) (z:Value) (sz bytes:Nat) (ht:P.underlying t=some (.slice e)) (hi:(P.info? e).map (fun i=>(i.zero,i.size,i.bytes))=some (some z,sz,bytes))
  (hzs:z.cells.size=sz) (hsz:0<sz) (hby:bytes≤65536)
  (v:Value) (l:List α) (hown:OwnW sz enc e base w v l) (hs:a.eval s=v) (A:Addr) (n c:Nat) (news:List α) (hrd:Sl sz enc w (some A) n news) (hlen:∀ y,(enc y).length=sz) (h1:∀ y,∀ u∈enc y,u.oneCell'=true)
  (hx:a.eval x=.slice (some A) n c) (hl:l.length≤1000000) (hn:n≤1000000) (hbase:base≤w.heap.size)
  (h:∀ v' w',OwnW sz enc e base w' v' (l++news)→Chg (fun k=>k<w.heap.size∧¬ v.ownBlock=some k) w w'→Chg (· < base) w w'→(v'.ownBlock=v.ownBlock∨∀ g,v'.ownBlock=some g→w.heap.size≤g)→K (a.put o.dst v') w') :
  o.wp P a w K Q:=by
 obtain ⟨i,hi,hz0,hz1,hz2⟩:=info_parts hi
 have hnl:=hrd.len
 have hmul:(l.length+n)*bytes≤2000000*65536:=Nat.mul_le_mul (by omega) hby
 have hnew:∀ j u,(news.flatMap enc)[j]?=some u→w.cell? (A.add j)=some u:=by
  intro j u hu
  rcases hrd.2 with h0 | ⟨x,o,e1,_,_⟩
  ·have:news=[]:=List.eq_nil_of_length_eq_zero (hnl.trans h0)
   subst this
   simp at hu
  ·cases e1
   rw [Addr.add_lit]
   exact hrd.flatW hlen hsz j u hu
 have hnf:(news.flatMap enc).length=n*sz:=by rw [flatW_len hlen,hnl]
 have h1f:∀ u∈news.flatMap enc,u.oneCell'=true:=fun u hu=>by
  obtain ⟨y,_,hy⟩:=List.mem_flatMap.1 hu
  exact h1 y u hy
 have close:∀ v' w',(Builtin.append_ #[t,t] o.type #[v,.slice (some A) n c]).run P w=.ok v' w'→K (a.put o.dst v') w'→o.wp P a w K Q:=by
  intro v' w' hrun hK
  unfold Oper.wp
  simp [execOp,ho,resolve,invoke,builtin,hs,hx,hrun,Result.andThen]
  exact hK
 have fresh:∀ v' w',w'.ownsRow w.heap.size e sz v' (l.length+n) (l.flatMap enc++news.flatMap enc)→w.grownBy w' none→(∀ g,v.ownBlock=some g→base≤g)→K (a.put o.dst v') w':=by
  intro v' w' hr hg hvb
  have ho:OwnL sz enc e w.heap.size w' v' (l++news):=by
   unfold OwnL
   rw [List.length_append,hnl,List.flatMap_append]
   exact hr
  have hch:Ex w w':=⟨hg.os,hg.tape,hg.output,hg.size,fun k hk=>hg.block k hk (by simp)⟩
  exact h v' w' (OwnW.lower (OwnL.toW ho) hbase) (Chg.mono hch (fun k hk=>hk.1)) (Chg.mono hch (fun k (hk:k<base)=>by show k<w.heap.size;omega)) (.inr fun g hg=>((OwnL.toW ho).blk hg).1)
 rcases hown with ⟨rfl,rfl⟩ | ⟨g,cap,cur,rfl,hbg,hg,hnc,hcm,hcs,htake⟩
 ·obtain ⟨v',w',hrun,r1,r2,_,_⟩:=run_append_own_at (P:=P) w w.heap.size t o.type e i z sz bytes ht hi hz0 hz1 hz2 hzs hsz (.slice none 0 0) 0 [] (World.ownsRow_nil _ _ e sz) A n c (news.flatMap enc) hnf hnew h1f (by unfold maxLen;omega) (by simp only [Nat.zero_add];have:n*bytes≤1000000*65536:=Nat.mul_le_mul hn hby;omega) (Nat.le_refl _)
  refine close v' w' hrun (fresh v' w' (by simpa using r1) r2 (fun g hg=>by cases hg))
 ·by_cases hroom:l.length+n≤cap
  ·have hmm:(l.length+n)*sz≤cap*sz:=Nat.mul_le_mul_right _ hroom
   rw [Nat.add_mul] at hmm
   have hrun:=run_append_room (P:=P) w t o.type e i ht hi g l.length cap cur hg A n c (news.flatMap enc) (by rw [hz1];exact hnf) hnew h1f hroom (by rw [hz1,hnf];omega)
   refine close _ _ hrun (h _ _ (.inr ⟨g,cap,_,?_,hbg,setRow_heap w g cur _ e _ hg,?_,hcm,?_,?_⟩) ⟨rfl,rfl,rfl,by simp [World.setRow],fun k hk=>setRow_other w g k _ (fun he=>hk.2 (by rw [he];rfl))⟩ ⟨rfl,rfl,rfl,by simp [World.setRow],fun k hk=>setRow_other w g k _ (by omega)⟩ (.inl rfl))
   ·rw [List.length_append,hnl]
   ·rw [List.length_append,hnl];exact hroom
   ·simp only [List.size_toArray,List.length_append,List.length_take,List.length_drop,Array.length_toList,hz1,hnf]
    omega
   ·rw [List.length_append,hnl,hz1,htake,List.flatMap_append,Nat.add_mul]
    have:(l.flatMap enc++news.flatMap enc).length=l.length*sz+n*sz:=by rw [List.length_append,flatW_len hlen,hnf]
    rw [← this]
    exact List.take_left
  ·have holds:∀ j u,(l.flatMap enc)[j]?=some u→w.cell? ((⟨g,0,none⟩:Addr).add j)=some u:=by
    intro j u hu
    rw [Addr.add_lit,Nat.zero_add,World.cell?,hg]
    rw [← htake,List.getElem?_take] at hu
    split at hu
    ·simpa using hu
    ·cases hu
   obtain ⟨v',w',hrun,r1,r2⟩:=run_append_arg_grows (P:=P) w t o.type e i z sz bytes ht hi hz0 hz1 hz2 hzs hsz ⟨g,0,none⟩ l.length cap (l.flatMap enc) (by rw [flatW_len hlen]) holds A n c (news.flatMap enc) hnf hnew (by omega) (by unfold maxLen;omega) (by omega)
   exact close v' w' hrun (fresh v' w' r1 r2 (fun g' hg'=>by simp [Value.ownBlock] at hg';omega))
theorem wpList_append_W {P:Program} {ops:Array Oper} {rest:List Oper} {o:Oper} {a:Act} {Q:Exit→Act→World→Prop} (w:World) (hgd:o.guard=none) (s x:Operand) (t:TypeId)
  (ho:o.op=.call { callee:=.builtin .append,args:=#[s,x],argTypes:=#[t,t] })
  (base:Nat) (e:TypeId) (z:Value) (sz bytes:Nat) (ht:P.underlying t=some (.slice e)) (hi:(P.info? e).map (fun i=>(i.zero,i.size,i.bytes))=some (some z,sz,bytes))
  (hzs:z.cells.size=sz) (hsz:0<sz) (hby:bytes≤65536)
  (v:Value) (l:List α) (hown:OwnW sz enc e base w v l) (hs:a.eval s=v) (A:Addr) (n c:Nat) (news:List α) (hrd:Sl sz enc w (some A) n news) (hlen:∀ y,(enc y).length=sz) (h1:∀ y,∀ u∈enc y,u.oneCell'=true)
  (hx:a.eval x=.slice (some A) n c) (hl:l.length≤1000000) (hn:n≤1000000) (hbase:base≤w.heap.size)
  (h:∀ v' w',OwnW sz enc e base w' v' (l++news)→Chg (fun k=>k<w.heap.size∧¬ v.ownBlock=some k) w w'→Chg (· < base) w w'→(v'.ownBlock=v.ownBlock∨∀ g,v'.ownBlock=some g→w.heap.size≤g)→wpList P ops Q rest (a.put o.dst v') w') :
  wpList P ops Q (o::rest) a w :=
 wpList_plain hgd fun _ hK=>wp_append_W w s x t ho base e z sz bytes ht hi hzs hsz hby v l hown hs A n c news hrd hlen h1 hx hl hn hbase fun v' w' h2 h3 h4 h5=>hK _ _ (h v' w' h2 h3 h4 h5)
theorem flat_setW {c:Nat} (hsz:∀ y,(enc y).length=sz) (hc:c<sz) {y':α} {u:Value} :
  ∀ (L:List α) (j:Nat) (y:α),L[j]?=some y→enc y'=(enc y).set c u→(L.set j y').flatMap enc=(L.flatMap enc).set (j*sz+c) u
 | [],j,y,h,_=>by simp at h
 | z::r,0,y,h,hv=>by
  simp at h;subst h
  rw [List.set_cons_zero,List.flatMap_cons,List.flatMap_cons,hv,Nat.zero_mul,Nat.zero_add,List.set_append_left _ _ (by rw [hsz];exact hc)]
 | z::r,j+1,y,h,hv=>by
  rw [List.set_cons_succ,List.flatMap_cons,List.flatMap_cons,flat_setW hsz hc r j y (by simpa using h) hv,List.set_append_right _ _ (by rw [hsz,Nat.succ_mul];omega),hsz]
  congr 2
  rw [Nat.succ_mul];omega
theorem OwnW.set1 (hsz:∀ y,(enc y).length=sz) {g n cap j c:Nat} {y:α} (h:OwnW sz enc e base w (.slice (some ⟨g,0,none⟩) n cap) l)
  (hy:l[j]?=some y) (hc:c<sz):w.cell? ⟨g,j*sz+c,none⟩=(enc y)[c]?∧w.frozen? ⟨g,j*sz+c,none⟩=false ∧
   ∀ (y':α) (u:Value),enc y'=(enc y).set c u→OwnW sz enc e base (w.setCell ⟨g,j*sz+c,none⟩ u) (.slice (some ⟨g,0,none⟩) n cap) (l.set j y'):=by
 rcases h with ⟨h1,_⟩ | ⟨g',cap',cur,e1,e2,e3,e4,e5,e6,e7⟩
 ·cases h1
 ·obtain ⟨rfl,hLn,rfl⟩:g=g'∧n=l.length∧cap=cap':=by simpa using e1
  have hjl:=(List.getElem?_eq_some_iff.1 hy).1
  have hlt:j*sz+c<l.length*sz:=by
   have:(j+1)*sz≤l.length*sz:=Nat.mul_le_mul_right _ hjl
   rw [Nat.succ_mul] at this;omega
  refine ⟨?_,by simp [World.frozen?,e3],fun y' u hv=>.inr ⟨g,cap,_,by simp [hLn],e2,heap_set e3 _ u,by simpa using e4,e5,by simpa using e6,?_⟩⟩
  ·have h2:(cur.toList.take (l.length*sz))[j*sz+c]?=(enc y)[c]?:=by
    rw [e7]
    have hcy:c<(enc y).length:=by rw [hsz];exact hc
    rw [List.getElem?_eq_getElem hcy]
    exact flat_at hsz l j y hy c _ (List.getElem?_eq_getElem hcy)
   rw [List.getElem?_take,if_pos hlt] at h2
   simpa [World.cell?,e3] using h2
  ·rw [flat_setW hsz hc l j y hy hv,← e7,List.length_set]
   simp only [Array.toList_setIfInBounds,List.take_set]
end
theorem OwnL.blk {α:Type} {sz e base:Nat} {enc:α→List Value} {w:World} {v:Value} {l:List α} (h:OwnL sz enc e base w v l) {g:Nat} (hg:v.ownBlock=some g):base≤g∧∃ cur,w.heap[g]?=some (.cells cur e (0,0)):=by
 rcases h.2 with ⟨rfl,_⟩ | ⟨g',cap,cur,rfl,hb,hh,_⟩
 ·cases hg
 ·obtain rfl:g'=g:=by simpa [Value.ownBlock] using hg
  exact ⟨hb,cur,hh⟩
section
variable {A β:Type} {encA:A→List Value} {s1 s2:Nat} {encB:β→List Value} {e1 e2:TypeId}
def encP (encA:A→List Value) (q:A×Hdr):List Value:=encA q.1++[q.2.val]
def NL (encA:A→List Value) (s1 s2:Nat) (encB:β→List Value) (w:World) (a:Option Addr) (n:Nat) (L:List (A×List β)):Prop :=
 ∃ qs:List (A×Hdr),Sl s1 (encP encA) w a n qs∧L.length=n∧∀ (j:Nat) (q:A×Hdr) (c:A×List β),qs[j]?=some q→L[j]?=some c→q.1=c.1∧Sl s2 encB w q.2.1 q.2.2.1 c.2
theorem NL.nx {w w':World} {a:Option Addr} {n:Nat} {L:List (A×List β)} (h:NL encA s1 s2 encB w a n L) (k:Ex w w'):NL encA s1 s2 encB w' a n L:=by
 obtain ⟨qs,h1,h2,h3⟩:=h
 exact ⟨qs,h1.nx k,h2,fun j q c hq hc=>⟨(h3 j q c hq hc).1,(h3 j q c hq hc).2.nx k⟩⟩
theorem NL.len {w:World} {a:Option Addr} {n:Nat} {L:List (A×List β)} (h:NL encA s1 s2 encB w a n L):L.length=n:=by
 obtain ⟨qs,h1,h2,h3⟩:=h
 exact h2
theorem NL.at {w:World} {a:Option Addr} {n:Nat} {L:List (A×List β)} (h:NL encA s1 s2 encB w a n L) {j:Nat} (hj:j<n) :
  ∃ x o a' n' c' c,a=some ⟨x,o,none⟩∧x<w.heap.size∧L[j]?=some c∧(∀ i u,(encA c.1++[.slice a' n' c'])[i]?=some u→w.cell? ⟨x,o+j*s1+i,none⟩=some u)∧Sl s2 encB w a' n' c.2:=by
 obtain ⟨qs,h1,h2,h3⟩:=h
 obtain ⟨x,o,q,e,hx,hq,hc⟩:=h1.at hj
 obtain ⟨c,hcc⟩:∃ c,L[j]?=some c:=⟨L[j]'(by omega),by simp⟩
 obtain ⟨r1,r2⟩:=h3 j q c hq hcc
 refine ⟨x,o,q.2.1,q.2.2.1,q.2.2.2,c,e,hx,hcc,fun i u hu=>hc i u ?_,r2⟩
 unfold encP
 rw [r1]
 exact hu
theorem NL.nil (encA:A→List Value) (s1 s2:Nat) (encB:β→List Value) (w:World) (a:Option Addr):NL encA s1 s2 encB w a 0 []:=⟨[],Sl.nil _ _ _ _,rfl,by intro j q c h;simp at h⟩
def OwnN (encA:A→List Value) (s1 s2:Nat) (encB:β→List Value) (e1 e2:TypeId) (base:Nat) (w:World) (v:Value) (qs:List (A×Hdr)) (L:List (A×List β)):Prop :=
 OwnW s1 (encP encA) e1 base w v qs∧qs.length=L.length ∧
 (∀ (j:Nat) (q:A×Hdr) (c:A×List β),qs[j]?=some q→L[j]?=some c→q.1=c.1∧OwnL s2 encB e2 base w q.2.val c.2) ∧
 ∀ (i j:Nat) (qi qj:A×Hdr) (g:Nat),qs[i]?=some qi→qs[j]?=some qj→qi.2.val.ownBlock=some g→qj.2.val.ownBlock=some g→i=j
theorem OwnN.nil (encA:A→List Value) (s1 s2:Nat) (encB:β→List Value) (e1 e2:TypeId) (base:Nat) (w:World):OwnN encA s1 s2 encB e1 e2 base w (.slice none 0 0) [] [] :=
 ⟨OwnW.nil _ _ _ _ _,rfl,by intro j q c h;simp at h,by intro i j qi qj g h;simp at h⟩
variable {base:Nat} {w w':World} {v v':Value} {qs:List (A×Hdr)} {L:List (A×List β)}
theorem OwnN.nx (h:OwnN encA s1 s2 encB e1 e2 base w v qs L) (k:Ex w w'):OwnN encA s1 s2 encB e1 e2 base w' v qs L :=
 ⟨h.1.nx k,h.2.1,fun j q c hq hc=>⟨(h.2.2.1 j q c hq hc).1,(h.2.2.1 j q c hq hc).2.nx k⟩,h.2.2.2⟩
theorem OwnN.nxb {b:Nat} (h:OwnN encA s1 s2 encB e1 e2 base w v qs L) (hb:b<base) (k:Exb b w w'):OwnN encA s1 s2 encB e1 e2 base w' v qs L :=
 ⟨h.1.nxb hb k,h.2.1,fun j q c hq hc=>⟨(h.2.2.1 j q c hq hc).1,(h.2.2.1 j q c hq hc).2.nxb hb k⟩,h.2.2.2⟩
theorem OwnN.blk (h:OwnN encA s1 s2 encB e1 e2 base w v qs L) {j g:Nat} {q:A×Hdr} (hq:qs[j]?=some q) (hg:q.2.val.ownBlock=some g):base≤g∧∃ cur,w.heap[g]?=some (.cells cur e2 (0,0)):=by
 obtain ⟨c,hc⟩:∃ c,L[j]?=some c:=⟨L[j]'(by have:=(List.getElem?_eq_some_iff.1 hq).1;have:=h.2.1;omega),by simp⟩
 exact (h.2.2.1 j q c hq hc).2.blk hg
theorem OwnN.lt (h:OwnN encA s1 s2 encB e1 e2 base w v qs L) {j g:Nat} {q:A×Hdr} (hq:qs[j]?=some q) (hg:q.2.val.ownBlock=some g):g<w.heap.size:=by
 obtain ⟨_,cur,h1⟩:=h.blk hq hg
 exact heap_lt h1
theorem OwnN.ne (hne:e1≠e2) (h:OwnN encA s1 s2 encB e1 e2 base w v qs L) {j g:Nat} {q:A×Hdr} (hq:qs[j]?=some q) (hg:q.2.val.ownBlock=some g):¬ v.ownBlock=some g:=by
 intro hv
 obtain ⟨_,cur,h1⟩:=h.blk hq hg
 obtain ⟨_,cur',h2⟩:=h.1.blk hv
 rw [h1] at h2
 simp at h2
 exact hne h2.2.symm
theorem OwnN.push (hne:e1≠e2) (h:OwnN encA s1 s2 encB e1 e2 base w v qs L) {q:A×Hdr} {c:List β} (ho:OwnW s1 (encP encA) e1 base w' v' (qs++[q]))
  (k:Chg (fun k=>k<w.heap.size∧¬ v.ownBlock=some k) w w') (hin:OwnL s2 encB e2 base w q.2.val c) (hfr:∀ (j:Nat) (r:A×Hdr) (g:Nat),qs[j]?=some r→r.2.val.ownBlock=some g→¬ q.2.val.ownBlock=some g) :
  OwnN encA s1 s2 encB e1 e2 base w' v' (qs++[q]) (L++[(q.1,c)]):=by
 have hqv:∀ g,q.2.val.ownBlock=some g→¬ v.ownBlock=some g:=by
  intro g hg hv
  obtain ⟨_,cur,h1⟩:=hin.blk hg
  obtain ⟨_,cur',h2⟩:=h.1.blk hv
  rw [h1] at h2
  simp at h2
  exact hne h2.2.symm
 refine ⟨ho,by simp [h.2.1],fun j r d hr hd=>?_,fun i j qi qj g hi hj gi gj=>?_⟩
 ·rcases Nat.lt_or_ge j qs.length with hl | hl
  ·rw [List.getElem?_append_left hl] at hr
   rw [List.getElem?_append_left (by rw [← h.2.1];exact hl)] at hd
   obtain ⟨r1,r2⟩:=h.2.2.1 j r d hr hd
   exact ⟨r1,r2.chg k (fun x hx hv=>⟨hx,h.ne hne hr hv⟩)⟩
  ·obtain rfl:j=qs.length:=by have:=(List.getElem?_eq_some_iff.1 hr).1;simp at this;omega
   simp at hr
   rw [h.2.1] at hd
   simp at hd
   subst hr hd
   exact ⟨rfl,hin.chg k (fun x hx hv=>⟨hx,hqv x hv⟩)⟩
 ·have last:∀ (i:Nat) (r:A×Hdr),(qs++[q])[i]?=some r→(i<qs.length∧qs[i]?=some r)∨(i=qs.length∧r=q):=by
   intro i r hr
   rcases Nat.lt_or_ge i qs.length with hl | hl
   ·rw [List.getElem?_append_left hl] at hr;exact .inl ⟨hl,hr⟩
   ·obtain rfl:i=qs.length:=by have:=(List.getElem?_eq_some_iff.1 hr).1;simp at this;omega
    simp at hr
    exact .inr ⟨rfl,hr.symm⟩
  rcases last i qi hi with ⟨h1,h2⟩ | ⟨h1,h2⟩<;>rcases last j qj hj with ⟨h3,h4⟩ | ⟨h3,h4⟩
  ·exact h.2.2.2 i j qi qj g h2 h4 gi gj
  ·subst h4;exact absurd gj (hfr i qi g h2 gi)
  ·subst h2;exact absurd gi (hfr j qj g h4 gj)
  ·omega
end
section
variable {A β:Type} {encA:A→List Value} {p s2:Nat} {encB:β→List Value} {e1 e2:TypeId} {base:Nat} {w w':World} {v v':Value} {qs:List (A×Hdr)} {L:List (A×List β)}
theorem OwnN.get (h:OwnN encA (p+1) s2 encB e1 e2 base w v qs L) {k:Nat} {c:A×List β} (hc:L[k]?=some c):∃ hd:Hdr,qs[k]?=some (c.1,hd)∧OwnL s2 encB e2 base w hd.val c.2:=by
 obtain ⟨q,hq⟩:∃ q,qs[k]?=some q:=⟨qs[k]'(by have:=(List.getElem?_eq_some_iff.1 hc).1;have:=h.2.1;omega),by simp⟩
 obtain ⟨r1,r2⟩:=h.2.2.1 k q c hq hc
 exact ⟨q.2,by rw [hq,← r1],r2⟩
theorem OwnN.mod (hne:e1≠e2) (h:OwnN encA (p+1) s2 encB e1 e2 base w v qs L) {k:Nat} {a:A} {hd hd':Hdr} {c':List β} (hq:qs[k]?=some (a,hd)) (ho:OwnL s2 encB e2 base w' hd'.val c')
  (kk:Chg (fun x=>x<w.heap.size∧¬ hd.val.ownBlock=some x) w w') (hat:hd'.val.ownBlock=hd.val.ownBlock∨∀ x,hd'.val.ownBlock=some x→w.heap.size≤x) :
  OwnW (p+1) (encP encA) e1 base w' v qs∧(∀ (j:Nat) (q:A×Hdr) (c:A×List β),j≠k→qs[j]?=some q→L[j]?=some c→q.1=c.1∧OwnL s2 encB e2 base w' q.2.val c.2) ∧
   (∀ x,hd'.val.ownBlock=some x→¬ v.ownBlock=some x)∧∀ (j:Nat) (q:A×Hdr) (x:Nat),j≠k→qs[j]?=some q→q.2.val.ownBlock=some x→¬ hd'.val.ownBlock=some x:=by
 have ho1:OwnW (p+1) (encP encA) e1 base w' v qs:=h.1.chg kk (fun x hx hv=>⟨hx,fun hh=>h.ne hne hq hh hv⟩)
 refine ⟨ho1,fun j q c hjk hr hc=>?_,fun x hx hv=>?_,fun j q x hjk hr hx hy=>?_⟩
 ·obtain ⟨r1,r2⟩:=h.2.2.1 j q c hr hc
  exact ⟨r1,r2.chg kk (fun x hx hv=>⟨hx,fun hh=>hjk (h.2.2.2 j k q (a,hd) x hr hq hv hh)⟩)⟩
 ·obtain ⟨_,cur,h1⟩:=ho.blk hx
  obtain ⟨_,cur',h2⟩:=ho1.blk hv
  rw [h1] at h2
  simp at h2
  exact hne h2.2.symm
 ·rcases hat with h1 | h1
  ·exact hjk (h.2.2.2 j k q (a,hd) x hr hq hx (h1▸hy))
  ·have:=h.lt hr hx
   have:=h1 x hy
   omega
theorem OwnN.put (hA:∀ y,(encA y).length=p) (hne:e1≠e2) {g n cap:Nat} (h:OwnN encA (p+1) s2 encB e1 e2 base w (.slice (some ⟨g,0,none⟩) n cap) qs L) {k:Nat} {a:A} {hd hd':Hdr} {c':List β} (hq:qs[k]?=some (a,hd))
  (ho:OwnL s2 encB e2 base w' hd'.val c') (kk:Chg (fun x=>x<w.heap.size∧¬ hd.val.ownBlock=some x) w w') (hat:hd'.val.ownBlock=hd.val.ownBlock∨∀ x,hd'.val.ownBlock=some x→w.heap.size≤x) :
  w'.cell? ⟨g,k*(p+1)+p,none⟩=some hd.val∧w'.frozen? ⟨g,k*(p+1)+p,none⟩=false ∧
   OwnN encA (p+1) s2 encB e1 e2 base (w'.setCell ⟨g,k*(p+1)+p,none⟩ hd'.val) (.slice (some ⟨g,0,none⟩) n cap) (qs.set k (a,hd')) (L.set k (a,c')):=by
 obtain ⟨o1,o2,o3,o4⟩:=h.mod hne hq ho kk hat
 have hsz:∀ y,(encP encA y).length=p+1:=fun y=>by unfold encP;simp [hA]
 obtain ⟨f1,f2,f3⟩:=o1.set1 hsz hq (c:=p) (by omega)
 have hkl:=(List.getElem?_eq_some_iff.1 hq).1
 have hset:Chg (·≠g) w' (w'.setCell ⟨g,k*(p+1)+p,none⟩ hd'.val):=(Chg.refl _ w').setCell _ (fun x hx=>hx)
 have hgb:(Value.slice (some ⟨g,0,none⟩) n cap).ownBlock=some g:=rfl
 refine ⟨?_,f2,f3 (a,hd') hd'.val ?_,by simp [h.2.1],fun j r c hr hc=>?_,fun i j qi qj x hi hj gi gj=>?_⟩
 ·rw [f1]
  unfold encP
  rw [List.getElem?_append_right (by rw [hA];exact Nat.le_refl _),hA,Nat.sub_self]
  rfl
 ·unfold encP
  rw [List.set_append_right _ _ (by rw [hA];exact Nat.le_refl _),hA,Nat.sub_self]
  rfl
 ·by_cases hjk:j=k
  ·subst hjk
   rw [List.getElem?_set_self hkl] at hr
   rw [List.getElem?_set_self (by rw [← h.2.1];exact hkl)] at hc
   cases hr
   cases hc
   exact ⟨rfl,ho.chg hset (fun x _ hv=>by intro he;subst he;exact o3 _ hv hgb)⟩
  ·rw [List.getElem?_set_ne (by omega)] at hr hc
   obtain ⟨r1,r2⟩:=o2 j r c hjk hr hc
   refine ⟨r1,r2.chg hset (fun x _ hv=>?_)⟩
   intro he
   subst he
   exact h.ne hne hr hv hgb
 ·by_cases hik:i=k
  ·by_cases hjk:j=k
   ·omega
   ·exfalso
    subst hik
    rw [List.getElem?_set_self hkl] at hi
    cases hi
    rw [List.getElem?_set_ne (by omega)] at hj
    exact o4 j qj x hjk hj gj gi
  ·rw [List.getElem?_set_ne (by omega)] at hi
   by_cases hjk:j=k
   ·exfalso
    subst hjk
    rw [List.getElem?_set_self hkl] at hj
    cases hj
    exact o4 i qi x hik hi gi gj
   ·rw [List.getElem?_set_ne (by omega)] at hj
    exact h.2.2.2 i j qi qj x hi hj gi gj
theorem OwnN.keep (hne:e1≠e2) (h:OwnN encA (p+1) s2 encB e1 e2 base w v qs L) {k:Nat} {a:A} {hd:Hdr} {c':List β} (hq:qs[k]?=some (a,hd)) (ho:OwnL s2 encB e2 base w' hd.val c')
  (kk:Chg (fun x=>x<w.heap.size∧¬ hd.val.ownBlock=some x) w w'):OwnN encA (p+1) s2 encB e1 e2 base w' v qs (L.set k (a,c')):=by
 obtain ⟨o1,o2,o3,o4⟩:=h.mod hne hq ho kk (.inl rfl)
 have hkl:=(List.getElem?_eq_some_iff.1 hq).1
 refine ⟨o1,by simp [h.2.1],fun j r c hr hc=>?_,h.2.2.2⟩
 by_cases hjk:j=k
 ·subst hjk
  rw [List.getElem?_set_self (by rw [← h.2.1];exact hkl)] at hc
  obtain rfl:(a,hd)=r:=Option.some.inj (hq.symm.trans hr)
  cases hc
  exact ⟨rfl,ho⟩
 ·rw [List.getElem?_set_ne (by omega)] at hc
  exact o2 j r c hjk hr hc
theorem OwnL.lit {α:Type} {sz:Nat} {enc:α→List Value} {e:TypeId} {base:Nat} {w:World} (l:List α) (hsz:∀ y,(enc y).length=sz) (hb:base≤w.heap.size) (hl:l.length≤maxLen) {cs:Array Value} (hc:cs=(l.flatMap enc).toArray) :
  OwnL sz enc e base (w.alloc (.cells cs e)) (.slice (some ⟨w.heap.size,0,none⟩) l.length l.length) l:=by
 subst hc
 have hf:(l.flatMap enc).length=l.length*sz:=flatN_len hsz l
 exact ⟨hf,.inr ⟨w.heap.size,l.length,_,rfl,hb,heap_new w _,Nat.le_refl _,hl,by simp [hf],by simp only [← hf,List.toList_toArray];exact List.take_length⟩⟩
end
abbrev Nr:=Int×Int×Int×Int
structure Pr where
 id:Int
 left:Int
 right:Int
 known:List Int
 near:List Nr
def encNr (x:Nr):List Value:=[.int .i64 x.1,.int .i64 x.2.1,.int .i64 x.2.2.1,.int .i64 x.2.2.2]
abbrev PQ:=(Int×Int×Int)×Hdr×Hdr
def encQ (q:PQ):List Value:=[.int .i64 q.1.1,q.2.1.val,.int .i64 q.1.2.1,.int .i64 q.1.2.2,q.2.2.val]
def Pr.nums (p:Pr):Int×Int×Int:=(p.id,p.left,p.right)
def PrV (w:World) (q:PQ) (p:Pr):Prop:=q.1=p.nums∧Sl 1 encI w q.2.1.1 q.2.1.2.1 p.known∧Sl 4 encNr w q.2.2.1 q.2.2.2.1 p.near
def PL (w:World) (a:Option Addr) (n:Nat) (P:List Pr):Prop:=∃ qs:List PQ,Sl 5 encQ w a n qs∧P.length=n∧∀ (j:Nat) (q:PQ) (p:Pr),qs[j]?=some q→P[j]?=some p→PrV w q p
def PrVb (b:Nat) (w:World) (q:PQ) (p:Pr):Prop:=q.1=p.nums∧Slb 1 encI b w q.2.1.1 q.2.1.2.1 p.known∧Slb 4 encNr b w q.2.2.1 q.2.2.2.1 p.near
def PLb (b:Nat) (w:World) (a:Option Addr) (n:Nat) (P:List Pr):Prop:=∃ qs:List PQ,Slb 5 encQ b w a n qs∧P.length=n∧∀ (j:Nat) (q:PQ) (p:Pr),qs[j]?=some q→P[j]?=some p→PrVb b w q p
section
variable {w w':World} {a:Option Addr} {n b:Nat} {P:List Pr} {q:PQ} {p:Pr}
theorem PrV.nx (h:PrV w q p) (k:Ex w w'):PrV w' q p:=⟨h.1,h.2.1.nx k,h.2.2.nx k⟩
theorem PrVb.nxb (h:PrVb b w q p) (k:Exb b w w'):PrVb b w' q p:=⟨h.1,h.2.1.nxb k,h.2.2.nxb k⟩
theorem PrVb.v (h:PrVb b w q p):PrV w q p:=⟨h.1,h.2.1.sl,h.2.2.sl⟩
theorem PrV.vb (h:PrV w q p) (hb:w.heap.size≤b):PrVb b w q p:=⟨h.1,h.2.1.slb hb,h.2.2.slb hb⟩
theorem PL.nx (h:PL w a n P) (k:Ex w w'):PL w' a n P:=by
 obtain ⟨qs,h1,h2,h3⟩:=h
 exact ⟨qs,h1.nx k,h2,fun j q p hq hp=>(h3 j q p hq hp).nx k⟩
theorem PLb.nxb (h:PLb b w a n P) (k:Exb b w w'):PLb b w' a n P:=by
 obtain ⟨qs,h1,h2,h3⟩:=h
 exact ⟨qs,h1.nxb k,h2,fun j q p hq hp=>(h3 j q p hq hp).nxb k⟩
theorem PLb.pl (h:PLb b w a n P):PL w a n P:=by
 obtain ⟨qs,h1,h2,h3⟩:=h
 exact ⟨qs,h1.sl,h2,fun j q p hq hp=>(h3 j q p hq hp).v⟩
theorem PL.plb (h:PL w a n P) (hb:w.heap.size≤b):PLb b w a n P:=by
 obtain ⟨qs,h1,h2,h3⟩:=h
 exact ⟨qs,h1.slb hb,h2,fun j q p hq hp=>(h3 j q p hq hp).vb hb⟩
theorem PL.len (h:PL w a n P):P.length=n:=by obtain ⟨_,_,h2,_⟩:=h;exact h2
theorem PLb.len (h:PLb b w a n P):P.length=n:=by obtain ⟨_,_,h2,_⟩:=h;exact h2
theorem PL.nil (w:World) (a:Option Addr):PL w a 0 []:=⟨[],Sl.nil _ _ _ _,rfl,by intro j q p h;simp at h⟩
theorem PL.at (h:PL w a n P) {j:Nat} (hj:j<n) :
  ∃ (x o:Nat) (a1:Option Addr) (n1 c1:Nat) (a2:Option Addr) (n2 c2:Nat) (p:Pr),a=some ⟨x,o,none⟩∧x<w.heap.size∧P[j]?=some p ∧
   (∀ i u,(encQ (p.nums,(a1,n1,c1),(a2,n2,c2)))[i]?=some u→w.cell? ⟨x,o+j*5+i,none⟩=some u)∧Sl 1 encI w a1 n1 p.known∧Sl 4 encNr w a2 n2 p.near:=by
 obtain ⟨qs,h1,h2,h3⟩:=h
 obtain ⟨x,o,q,e,hx,hq,hc⟩:=h1.at hj
 obtain ⟨p,hp⟩:∃ p,P[j]?=some p:=⟨P[j]'(by omega),by simp⟩
 obtain ⟨r1,r2,r3⟩:=h3 j q p hq hp
 obtain ⟨q0,⟨a1,n1,c1⟩,a2,n2,c2⟩:=q
 simp only at r1 r2 r3
 subst r1
 exact ⟨x,o,a1,n1,c1,a2,n2,c2,p,e,hx,hp,hc,r2,r3⟩
end
def OwnP (eP eI eN:TypeId) (base:Nat) (w:World) (v:Value) (qs:List PQ) (P:List Pr):Prop :=
 OwnW 5 encQ eP base w v qs∧qs.length=P.length ∧
 (∀ (j:Nat) (q:PQ) (p:Pr),qs[j]?=some q→P[j]?=some p→q.1=p.nums∧OwnL 1 encI eI base w q.2.1.val p.known∧OwnL 4 encNr eN base w q.2.2.val p.near) ∧
 (∀ (i j:Nat) (qi qj:PQ) (g:Nat),qs[i]?=some qi→qs[j]?=some qj→qi.2.1.val.ownBlock=some g→qj.2.1.val.ownBlock=some g→i=j) ∧
 (∀ (i j:Nat) (qi qj:PQ) (g:Nat),qs[i]?=some qi→qs[j]?=some qj→qi.2.2.val.ownBlock=some g→qj.2.2.val.ownBlock=some g→i=j)
section
variable {eP eI eN:TypeId} {base:Nat} {w w':World} {v v':Value} {qs:List PQ} {P:List Pr}
theorem OwnP.nil (eP eI eN:TypeId) (base:Nat) (w:World):OwnP eP eI eN base w (.slice none 0 0) [] [] :=
 ⟨OwnW.nil _ _ _ _ _,rfl,by intro j q p h;simp at h,by intro i j qi qj g h;simp at h,by intro i j qi qj g h;simp at h⟩
theorem OwnP.nx (h:OwnP eP eI eN base w v qs P) (k:Ex w w'):OwnP eP eI eN base w' v qs P :=
 ⟨h.1.nx k,h.2.1,fun j q p hq hp=>⟨(h.2.2.1 j q p hq hp).1,(h.2.2.1 j q p hq hp).2.1.nx k,(h.2.2.1 j q p hq hp).2.2.nx k⟩,h.2.2.2⟩
theorem OwnP.nxb {b:Nat} (h:OwnP eP eI eN base w v qs P) (hb:b<base) (k:Exb b w w'):OwnP eP eI eN base w' v qs P :=
 ⟨h.1.nxb hb k,h.2.1,fun j q p hq hp=>⟨(h.2.2.1 j q p hq hp).1,(h.2.2.1 j q p hq hp).2.1.nxb hb k,(h.2.2.1 j q p hq hp).2.2.nxb hb k⟩,h.2.2.2⟩
theorem OwnP.lower {base':Nat} (h:OwnP eP eI eN base w v qs P) (hb:base'≤base):OwnP eP eI eN base' w v qs P :=
 ⟨h.1.lower hb,h.2.1,fun j q p hq hp=>⟨(h.2.2.1 j q p hq hp).1,(h.2.2.1 j q p hq hp).2.1.base hb,(h.2.2.1 j q p hq hp).2.2.base hb⟩,h.2.2.2⟩
theorem blk_kind {g:Nat} {c1 c2:Array Value} {e1 e2:TypeId} (hne:e1≠e2) (h1:w.heap[g]?=some (.cells c1 e1 (0,0))) (h2:w.heap[g]?=some (.cells c2 e2 (0,0))):False:=by
 rw [h1] at h2
 simp at h2
 exact hne h2.2
theorem OwnP.getp (h:OwnP eP eI eN base w v qs P) {j:Nat} {q:PQ} (hq:qs[j]?=some q):∃ p,P[j]?=some p∧q.1=p.nums∧OwnL 1 encI eI base w q.2.1.val p.known∧OwnL 4 encNr eN base w q.2.2.val p.near:=by
 obtain ⟨p,hp⟩:∃ p,P[j]?=some p:=⟨P[j]'(by have:=(List.getElem?_eq_some_iff.1 hq).1;have:=h.2.1;omega),by simp⟩
 exact ⟨p,hp,h.2.2.1 j q p hq hp⟩
theorem OwnP.get (h:OwnP eP eI eN base w v qs P) {j:Nat} {p:Pr} (hp:P[j]?=some p):∃ hk hn:Hdr,qs[j]?=some (p.nums,hk,hn)∧OwnL 1 encI eI base w hk.val p.known∧OwnL 4 encNr eN base w hn.val p.near:=by
 obtain ⟨q,hq⟩:∃ q,qs[j]?=some q:=⟨qs[j]'(by have:=(List.getElem?_eq_some_iff.1 hp).1;have:=h.2.1;omega),by simp⟩
 obtain ⟨r1,r2,r3⟩:=h.2.2.1 j q p hq hp
 obtain ⟨q0,hk,hn⟩:=q
 simp only at r1 r2 r3
 subst r1
 exact ⟨hk,hn,hq,r2,r3⟩
theorem OwnP.neI (hI:eP≠eI) (h:OwnP eP eI eN base w v qs P) {j g:Nat} {q:PQ} (hq:qs[j]?=some q) (hg:q.2.1.val.ownBlock=some g):¬ v.ownBlock=some g:=fun hv=>by
 obtain ⟨p,_,_,r2,_⟩:=h.getp hq
 obtain ⟨_,c1,h1⟩:=r2.blk hg
 obtain ⟨_,c2,h2⟩:=h.1.blk hv
 exact blk_kind hI h2 h1
theorem OwnP.neN (hN:eP≠eN) (h:OwnP eP eI eN base w v qs P) {j g:Nat} {q:PQ} (hq:qs[j]?=some q) (hg:q.2.2.val.ownBlock=some g):¬ v.ownBlock=some g:=fun hv=>by
 obtain ⟨p,_,_,_,r3⟩:=h.getp hq
 obtain ⟨_,c1,h1⟩:=r3.blk hg
 obtain ⟨_,c2,h2⟩:=h.1.blk hv
 exact blk_kind hN h2 h1
theorem OwnP.push (hI:eP≠eI) (hN:eP≠eN) (h:OwnP eP eI eN base w v qs P) {p:Pr} {hk hn:Hdr} (ho:OwnW 5 encQ eP base w' v' (qs++[(p.nums,hk,hn)]))
  (k:Chg (fun k=>k<w.heap.size∧¬ v.ownBlock=some k) w w') (ik:OwnL 1 encI eI base w hk.val p.known) (inr:OwnL 4 encNr eN base w hn.val p.near)
  (fk:∀ (j:Nat) (r:PQ) (g:Nat),qs[j]?=some r→r.2.1.val.ownBlock=some g→¬ hk.val.ownBlock=some g) (fn:∀ (j:Nat) (r:PQ) (g:Nat),qs[j]?=some r→r.2.2.val.ownBlock=some g→¬ hn.val.ownBlock=some g) :
  OwnP eP eI eN base w' v' (qs++[(p.nums,hk,hn)]) (P++[p]):=by
 have nk:∀ g,hk.val.ownBlock=some g→¬ v.ownBlock=some g:=fun g hg hv=>by
  obtain ⟨_,c1,h1⟩:=ik.blk hg
  obtain ⟨_,c2,h2⟩:=h.1.blk hv
  exact blk_kind hI h2 h1
 have nn:∀ g,hn.val.ownBlock=some g→¬ v.ownBlock=some g:=fun g hg hv=>by
  obtain ⟨_,c1,h1⟩:=inr.blk hg
  obtain ⟨_,c2,h2⟩:=h.1.blk hv
  exact blk_kind hN h2 h1
 have last:∀ (i:Nat) (r:PQ),(qs++[(p.nums,hk,hn)])[i]?=some r→(i<qs.length∧qs[i]?=some r)∨(i=qs.length∧r=(p.nums,hk,hn)):=by
  intro i r hr
  rcases Nat.lt_or_ge i qs.length with hl | hl
  ·rw [List.getElem?_append_left hl] at hr;exact .inl ⟨hl,hr⟩
  ·obtain rfl:i=qs.length:=by have:=(List.getElem?_eq_some_iff.1 hr).1;simp at this;omega
   simp at hr
   exact .inr ⟨rfl,hr.symm⟩
 refine ⟨ho,by simp [h.2.1],fun j r d hr hd=>?_,fun i j qi qj g hi hj gi gj=>?_,fun i j qi qj g hi hj gi gj=>?_⟩
 ·rcases last j r hr with ⟨h1,h2⟩ | ⟨h1,h2⟩
  ·rw [List.getElem?_append_left (by rw [← h.2.1];exact h1)] at hd
   obtain ⟨r1,r2,r3⟩:=h.2.2.1 j r d h2 hd
   exact ⟨r1,r2.chg k (fun x hx hv=>⟨hx,h.neI hI h2 hv⟩),r3.chg k (fun x hx hv=>⟨hx,h.neN hN h2 hv⟩)⟩
  ·subst h1 h2
   rw [h.2.1] at hd
   simp at hd
   subst hd
   exact ⟨rfl,ik.chg k (fun x hx hv=>⟨hx,nk x hv⟩),inr.chg k (fun x hx hv=>⟨hx,nn x hv⟩)⟩
 ·rcases last i qi hi with ⟨h1,h2⟩ | ⟨h1,h2⟩<;>rcases last j qj hj with ⟨h3,h4⟩ | ⟨h3,h4⟩
  ·exact h.2.2.2.1 i j qi qj g h2 h4 gi gj
  ·subst h4;exact absurd gj (fk i qi g h2 gi)
  ·subst h2;exact absurd gi (fk j qj g h4 gj)
  ·omega
 ·rcases last i qi hi with ⟨h1,h2⟩ | ⟨h1,h2⟩<;>rcases last j qj hj with ⟨h3,h4⟩ | ⟨h3,h4⟩
  ·exact h.2.2.2.2 i j qi qj g h2 h4 gi gj
  ·subst h4;exact absurd gj (fn i qi g h2 gi)
  ·subst h2;exact absurd gi (fn j qj g h4 gj)
  ·omega
theorem encQ_len (q:PQ):(encQ q).length=5:=rfl
theorem OwnP.pl (h:OwnP eP eI eN base w v qs P) :
  ∃ a cap,v=.slice a P.length cap∧PL w a P.length P∧P.length≤cap∧cap≤maxLen∧(P≠[]→∃ g,a=some ⟨g,0,none⟩∧base≤g)∧(a=none→cap=0):=by
 obtain ⟨a,cap,e,r,c1,c2,c3,c4⟩:=h.1.rd encQ_len
 rw [h.2.1] at e r c1
 refine ⟨a,cap,e,⟨qs,Rd.mono r (fun _ hk=>hk.2),rfl,fun j q p hq hp=>?_⟩,c1,c2,fun hL=>c3 (fun h0=>hL ?_),c4⟩
 ·obtain ⟨r1,r2,r3⟩:=h.2.2.1 j q p hq hp
  refine ⟨r1,?_,?_⟩
  ·obtain ⟨a',cap',e',r',_⟩:=r2.rd (fun _=>rfl)
   obtain ⟨q0,⟨x1,x2,x3⟩,hn⟩:=q
   simp only [Hdr.val,Value.slice.injEq] at e'
   obtain ⟨rfl,rfl,rfl⟩:=e'
   exact Rd.mono r' (fun _ hk=>hk.2)
  ·obtain ⟨a',cap',e',r',_⟩:=r3.rd (fun _=>rfl)
   obtain ⟨q0,hk,⟨x1,x2,x3⟩⟩:=q
   simp only [Hdr.val,Value.slice.injEq] at e'
   obtain ⟨rfl,rfl,rfl⟩:=e'
   exact Rd.mono r' (fun _ hk=>hk.2)
 ·have:=h.2.1
  rw [h0] at this
  exact List.eq_nil_of_length_eq_zero this.symm
end
def idxC (C:List (List Nd)) (v:Nat) (h:Int):Nat:=C.findIdx fun c=>sameN (headW c) v h
theorem idxC_le (C:List (List Nd)) (v:Nat) (h:Int):idxC C v h≤C.length:=List.findIdx_le_length
theorem flatH (l:List Hdr):l.flatMap encH=l.map Hdr.val:=by
 induction l with
 | nil=>rfl
 | cons c r ih=>rw [List.flatMap_cons,ih];rfl
theorem own_cellH {e:TypeId} {base:Nat} {w:World} {g n cap j:Nat} {l:List Hdr} {q:Hdr} (h:OwnL 1 encH e base w (.slice (some ⟨g,0,none⟩) n cap) l) (hj:l[j]?=some q) :
  w.cell? ⟨g,j,none⟩=some q.val∧w.frozen? ⟨g,j,none⟩=false∧∀ y:Hdr,OwnL 1 encH e base (w.setCell ⟨g,j,none⟩ y.val) (.slice (some ⟨g,0,none⟩) n cap) (l.set j y):=by
 rcases h.2 with ⟨h1,_⟩ | ⟨g',cap',cur,e1,e2,e3,e4,e5,e6,e7⟩
 ·cases h1
 ·cases e1
  have hjl:=(List.getElem?_eq_some_iff.1 hj).1
  have hjc:j<cur.size:=by omega
  rw [flatH] at e7
  refine ⟨?_,?_,fun y=>⟨?_,.inr ⟨g,cap,cur.setIfInBounds j y.val,by simp,e2,heap_set e3 j _,by simpa using e4,e5,by simpa using e6,?_⟩⟩⟩
  ·have hx:(cur.toList.take (l.length*1))[j]?=some q.val:=by
    rw [e7,List.getElem?_map,hj];rfl
   rw [List.getElem?_take,if_pos (by omega)] at hx
   simpa [World.cell?,e3] using hx
  ·simp [World.frozen?,e3]
  ·rw [flatH];simp
  ·rw [flatH,List.length_set,Array.toList_setIfInBounds,List.take_set,e7,List.map_set]
def OwnQ (base:Nat) (w:World) (v:Value) (qs:List Hdr) (C:List (List Nd)):Prop :=
 OwnL 1 encH 23 base w v qs∧qs.length=C.length ∧
 (∀ (j:Nat) (q:Hdr) (c:List Nd),qs[j]?=some q→C[j]?=some c→OwnL 3 encN 60 base w q.val c) ∧
 ∀ (i j:Nat) (qi qj:Hdr) (g:Nat),qs[i]?=some qi→qs[j]?=some qj→qi.val.ownBlock=some g→qj.val.ownBlock=some g→i=j
theorem OwnQ.nil (base:Nat) (w:World):OwnQ base w (.slice none 0 0) [] []:=⟨OwnL.nil _ _ _ _ _,rfl,by intro j q c h;simp at h,by intro i j qi qj g h;simp at h⟩
theorem OwnQ.nx {base:Nat} {w w':World} {v:Value} {qs:List Hdr} {C:List (List Nd)} (h:OwnQ base w v qs C) (k:Ex w w'):OwnQ base w' v qs C :=
 ⟨h.1.nx k,h.2.1,fun j q c hq hc=>(h.2.2.1 j q c hq hc).nx k,h.2.2.2⟩
theorem OwnQ.ne {base:Nat} {w:World} {v:Value} {qs:List Hdr} {C:List (List Nd)} (h:OwnQ base w v qs C) {j g:Nat} {q:Hdr} (hq:qs[j]?=some q) (hg:q.val.ownBlock=some g):¬ v.ownBlock=some g:=by
 intro hv
 obtain ⟨c,hc⟩:∃ c,C[j]?=some c:=⟨C[j]'(by have:=(List.getElem?_eq_some_iff.1 hq).1;have:=h.2.1;omega),by simp⟩
 obtain ⟨_,cur,h1⟩:=(h.2.2.1 j q c hq hc).blk hg
 obtain ⟨_,cur',h2⟩:=h.1.blk hv
 rw [h1] at h2
 simp at h2
theorem OwnQ.lt {base:Nat} {w:World} {v:Value} {qs:List Hdr} {C:List (List Nd)} (h:OwnQ base w v qs C) {j g:Nat} {q:Hdr} (hq:qs[j]?=some q) (hg:q.val.ownBlock=some g):g<w.heap.size:=by
 obtain ⟨c,hc⟩:∃ c,C[j]?=some c:=⟨C[j]'(by have:=(List.getElem?_eq_some_iff.1 hq).1;have:=h.2.1;omega),by simp⟩
 obtain ⟨_,cur,h1⟩:=(h.2.2.1 j q c hq hc).blk hg
 exact heap_lt h1
theorem OwnQ.put {base:Nat} {w1 w2:World} {g n cap k:Nat} {qs:List Hdr} {C:List (List Nd)} {q q':Hdr} {c':List Nd} (h:OwnQ base w1 (.slice (some ⟨g,0,none⟩) n cap) qs C) (hq:qs[k]?=some q)
  (ho:OwnL 3 encN 60 base w2 q'.val c') (kk:Chg (fun x=>x<w1.heap.size∧¬ q.val.ownBlock=some x) w1 w2) (hat:q'.val.ownBlock=q.val.ownBlock∨q'.val.ownBlock=some w1.heap.size) :
  w2.cell? ⟨g,k,none⟩=some q.val∧w2.frozen? ⟨g,k,none⟩=false∧OwnQ base (w2.setCell ⟨g,k,none⟩ q'.val) (.slice (some ⟨g,0,none⟩) n cap) (qs.set k q') (C.set k c'):=by
 have hg1:∀ (j:Nat) (q:Hdr) (x:Nat),qs[j]?=some q→q.val.ownBlock=some x→x≠g:=fun j q x hj hx he=>h.ne hj hx (by rw [he];rfl)
 have ho1:OwnL 1 encH 23 base w2 (.slice (some ⟨g,0,none⟩) n cap) qs:=h.1.chg kk (fun x hx hv=>⟨hx,fun hh=>h.ne hq hh hv⟩)
 obtain ⟨f1,f2,f3⟩:=own_cellH ho1 hq
 have hne':∀ x,q'.val.ownBlock=some x→x≠g:=by
  intro x hx he
  obtain ⟨_,cur,e1⟩:=ho.blk hx
  obtain ⟨_,cur',e2⟩:=ho1.blk (g:=g) rfl
  rw [he,e2] at e1
  simp at e1
 have hset:Chg (·≠g) w2 (w2.setCell ⟨g,k,none⟩ q'.val):=(Chg.refl _ w2).setCell _ (fun x hx=>hx)
 have hkl:=(List.getElem?_eq_some_iff.1 hq).1
 refine ⟨f1,f2,f3 q',by simp [h.2.1],fun j r c hr hc=>?_,fun i j qi qj x hi hj gi gj=>?_⟩
 ·by_cases hjk:j=k
  ·subst hjk
   rw [List.getElem?_set_self hkl] at hr
   rw [List.getElem?_set_self (by rw [← h.2.1];exact hkl)] at hc
   cases hr
   cases hc
   exact ho.chg hset (fun x _ hv=>hne' x hv)
  ·rw [List.getElem?_set_ne (by omega)] at hr hc
   have o1:=h.2.2.1 j r c hr hc
   have o2:OwnL 3 encN 60 base w2 r.val c:=o1.chg kk (fun x hx hv=>⟨hx,fun hh=>hjk (h.2.2.2 j k r q x hr hq hv hh)⟩)
   exact o2.chg hset (fun x _ hv=>hg1 j r x hr hv)
 ·have key:∀ (j:Nat) (qj:Hdr),j≠k→qs[j]?=some qj→qj.val.ownBlock=some x→q'.val.ownBlock=some x→False:=by
   intro j qj hjk hj gj gk
   rcases hat with h1 | h1
   ·exact hjk (h.2.2.2 j k qj q x hj hq gj (h1▸gk))
   ·have:=h.lt hj gj
    rw [h1] at gk
    cases gk
    omega
  by_cases hik:i=k
  ·by_cases hjk:j=k
   ·omega
   ·exfalso
    subst hik
    rw [List.getElem?_set_self hkl] at hi
    cases hi
    rw [List.getElem?_set_ne (by omega)] at hj
    exact key j qj hjk hj gj gi
  ·rw [List.getElem?_set_ne (by omega)] at hi
   by_cases hjk:j=k
   ·exfalso
    subst hjk
    rw [List.getElem?_set_self hkl] at hj
    cases hj
    exact key i qi hik hi gi gj
   ·rw [List.getElem?_set_ne (by omega)] at hj
    exact h.2.2.2 i j qi qj x hi hj gi gj
def padC (C:List (List Nd)) (k:Nat):List (List Nd):=if k=C.length then C++[[]] else C
def stepC (h:Int) (C:List (List Nd)) (x:Nd):List (List Nd) :=
 (padC C (idxC C x.word h)).set (idxC C x.word h) ((padC C (idxC C x.word h))[idxC C x.word h]?.getD []++[x])
theorem OwnQ.ne_blk {base g:Nat} {w:World} {v:Value} {qs:List Hdr} {C:List (List Nd)} {cs:List Value} (h:OwnQ base w v qs C) (b:Blk w g cs 60):¬ v.ownBlock=some g:=by
 intro hv
 obtain ⟨_,cur,e⟩:=h.1.blk hv
 unfold Blk at b
 rw [b] at e
 simp at e
theorem Blk.chg {w w':World} {g:Nat} {cs:List Value} {ty:TypeId} {S:Nat→Prop} (h:Blk w g cs ty) (k:Chg S w w') (hs:S g):Blk w' g cs ty:=(k.block g hs).trans h
def Nd.val (x:Nd):Value:=.agg #[.int .i64 x.id,.string x.key,.int .u32 x.word]
def Nd.zero:Nd:=⟨0,⟨#[]⟩,0⟩
theorem bytesLess_total:∀ x y:List UInt8,Op.bytesLess x y=false→Op.bytesLess y x=false→x=y
 | [],[],_,_=>rfl
 | [],b::y,h,_=>by simp [Op.bytesLess] at h
 | a::x,[],_,h=>by simp [Op.bytesLess] at h
 | a::x,b::y,h1,h2=>by
  simp only [Op.bytesLess,Bool.or_eq_false_iff,Bool.and_eq_false_iff,decide_eq_false_iff_not,beq_eq_false_iff_ne] at h1 h2
  have hab:a=b:=by
   rcases UInt8.lt_or_le a b with h | h
   ·exact absurd h h1.1
   ·rcases UInt8.lt_or_eq_of_le h with h | h
    ·exact absurd h h2.1
    ·exact h.symm
  subst hab
  rw [bytesLess_total x y (h1.2.resolve_left (by simp)) (h2.2.resolve_left (by simp))]
theorem insN_mem (out:List Nd) (x y:Nd):y∈insN out x↔y∈out∨y=x:=by
 unfold insN
 rw [List.mem_append,List.mem_cons]
 constructor
 ·rintro (h | h | h)
  ·exact .inl (List.mem_of_mem_take h)
  ·exact .inr h
  ·exact .inl (List.mem_of_mem_drop h)
 ·rintro (h | h)
  ·have:y∈out.take (atN out x out.length)++out.drop (atN out x out.length):=by rw [List.take_append_drop];exact h
   rcases List.mem_append.1 this with h | h
   ·exact .inl h
   ·exact .inr (.inr h)
  ·exact .inr (.inl h)
theorem sortN_mem (l:List Nd) (y:Nd):y∈sortN l↔y∈l:=by
 have:∀ (l out:List Nd),y∈l.foldl insN out↔y∈out∨y∈l:=by
  intro l
  induction l with
  | nil=>intro out;simp
  | cons x r ih=>intro out;rw [List.foldl_cons,ih,insN_mem,List.mem_cons,or_assoc]
 have:=this l []
 simpa [sortN] using this
def findN (l:List Nd) (id:Int):Nd×Bool:=match l.find? (fun x=>x.id==id) with | some x=>(x,true) | none=>(Nd.zero,false)
theorem findN_none {l:List Nd} {id:Int} (hno:∀ j z,j<l.length→l[j]?=some z→z.id≠id):findN l id=(Nd.zero,false):=by
 have:l.find? (fun x=>x.id==id)=none:=by
  rw [List.find?_eq_none]
  intro x hx
  obtain ⟨j,hj,he⟩:=List.mem_iff_getElem.1 hx
  have:=hno j x hj (by rw [← he];simp)
  simpa using this
 unfold findN
 rw [this]
def lvlN (h:Int):Bool:=decide (0≤h)&&decide (h≤16)
def ltN (a b:Nd):Bool:=Op.bytesLess a.key.toList b.key.toList||(a.key.toList==b.key.toList&&decide (a.id<b.id))
theorem bl_trans {x y z:List UInt8} (h1:Op.bytesLess x y=true) (h2:Op.bytesLess y z=true):Op.bytesLess x z=true:=by
 rw [bytesLess_eq] at *
 simp only [decide_eq_true_eq] at *
 exact List.lt_trans h1 h2
theorem bl_asymm {x y:List UInt8} (h:Op.bytesLess x y=true):Op.bytesLess y x=false:=by
 cases h2:Op.bytesLess y x with
 | false=>rfl
 | true =>
  have h3:=bl_trans h h2
  rw [bytesLess_irrefl] at h3
  cases h3
theorem bl_tri (x y:List UInt8):(Op.bytesLess x y=true∧Op.bytesLess y x=false∧x≠y)∨(x=y∧Op.bytesLess x y=false∧Op.bytesLess y x=false)∨(Op.bytesLess y x=true∧Op.bytesLess x y=false∧x≠y):=by
 cases h1:Op.bytesLess x y with
 | true=>exact .inl ⟨rfl,bl_asymm h1,fun he=>by rw [he,bytesLess_irrefl] at h1;cases h1⟩
 | false =>
  cases h2:Op.bytesLess y x with
  | true=>exact .inr (.inr ⟨rfl,rfl,fun he=>by rw [he,bytesLess_irrefl] at h2;cases h2⟩)
  | false=>exact .inr (.inl ⟨bytesLess_total x y h1 h2,rfl,rfl⟩)
theorem ltN_iff (a b:Nd):ltN a b=true↔Op.bytesLess a.key.toList b.key.toList=true∨(a.key.toList=b.key.toList∧a.id<b.id):=by
 unfold ltN;simp
theorem ltN_no (a b:Nd):ltN a b=false↔Op.bytesLess b.key.toList a.key.toList=true∨(a.key.toList=b.key.toList∧b.id≤a.id):=by
 rw [← Bool.not_eq_true,ltN_iff]
 rcases bl_tri a.key.toList b.key.toList with ⟨h1,h2,h3⟩ | ⟨h1,h2,h3⟩ | ⟨h1,h2,h3⟩
 ·simp [h1,h2,h3]
 ·simp [h1,bytesLess_irrefl]
 ·simp [h1,h2,h3]
theorem gtN_lt (a b:Nd):gtN a b=ltN b a:=by
 unfold gtN ltN
 rcases bl_tri a.key.toList b.key.toList with ⟨h1,h2,h3⟩ | ⟨h1,h2,h3⟩ | ⟨h1,h2,h3⟩
 ·have e1:(a.key.toList==b.key.toList)=false:=by rw [beq_eq_false_iff_ne];exact h3
  have e2:(b.key.toList==a.key.toList)=false:=by rw [beq_eq_false_iff_ne];exact fun h=>h3 h.symm
  rw [h1,h2,e1,e2];rfl
 ·simp [h1,bytesLess_irrefl]
 ·have e1:(a.key.toList==b.key.toList)=false:=by rw [beq_eq_false_iff_ne];exact h3
  have e2:(b.key.toList==a.key.toList)=false:=by rw [beq_eq_false_iff_ne];exact fun h=>h3 h.symm
  rw [h1,h2,e1,e2];rfl
theorem swo_ltN:Sort.SWO ltN where
 irrefl x:=by unfold ltN;simp [bytesLess_irrefl]
 trans x y z h1 h2:=by
  rw [ltN_iff] at *
  rcases h1 with h1 | ⟨h1,h1'⟩<;>rcases h2 with h2 | ⟨h2,h2'⟩
  ·exact .inl (bl_trans h1 h2)
  ·exact .inl (by rw [← h2];exact h1)
  ·exact .inl (by rw [h1];exact h2)
  ·exact .inr ⟨h1.trans h2,by omega⟩
 ntrans x y z h1 h2:=by
  rw [ltN_no] at *
  rcases h1 with h1 | ⟨h1,h1'⟩<;>rcases h2 with h2 | ⟨h2,h2'⟩
  ·exact .inl (bl_trans h2 h1)
  ·exact .inl (by rw [← h2];exact h1)
  ·exact .inl (by rw [h1];exact h2)
  ·exact .inr ⟨h1.trans h2,by omega⟩
def AscN (l:List Nd):Prop:=l.Pairwise fun x y=>ltN y x=false
theorem atN_spec (out:List Nd) (x:Nd) (h:AscN out):∀ n,n≤out.length→(∀ j y,n≤j→out[j]?=some y→ltN x y=true) →
  (∀ j y,atN out x n≤j→out[j]?=some y→ltN x y=true)∧(∀ j y,j<atN out x n→out[j]?=some y→ltN x y=false)
 | 0,_,h1=>⟨h1,by intro j y hj;unfold atN at hj;omega⟩
 | n+1,hn,h1=>by
  have hy:out[n]?=some out[n]:=List.getElem?_eq_getElem (by omega)
  unfold atN
  rw [hy]
  simp only
  split
  ·rename_i hg
   rw [gtN_lt] at hg
   refine atN_spec out x h n (by omega) fun j y hj hjy=>?_
   rcases Nat.lt_or_ge n j with h2 | h2
   ·exact h1 j y h2 hjy
   ·obtain rfl:j=n:=by omega
    rw [hy] at hjy
    cases hjy
    exact hg
  ·rename_i hg
   rw [gtN_lt] at hg
   have hg:ltN x out[n]=false:=by simpa using hg
   refine ⟨h1,fun j y hj hjy=>?_⟩
   rcases Nat.lt_or_ge j n with h2 | h2
   ·have hj':=List.getElem?_eq_some_iff.1 hjy
    have:=List.pairwise_iff_getElem.1 h j n hj'.1 (by omega) h2
    rw [hj'.2] at this
    exact swo_ltN.ntrans _ _ _ hg this
   ·obtain rfl:j=n:=by omega
    rw [hy] at hjy
    cases hjy
    exact hg
theorem insN_asc {out:List Nd} (x:Nd) (h:AscN out):AscN (insN out x):=by
 obtain ⟨h1,h2⟩:=atN_spec out x h out.length (Nat.le_refl _) (by intro j y hj hjy;have:=(List.getElem?_eq_some_iff.1 hjy).1;omega)
 unfold insN AscN
 have ha:(out.take (atN out x out.length)++out.drop (atN out x out.length)).Pairwise fun x y=>ltN y x=false:=by rw [List.take_append_drop];exact h
 rw [List.pairwise_append] at ha ⊢
 refine ⟨ha.1,List.pairwise_cons.2 ⟨fun y hy=>?_,ha.2.1⟩,fun y hy z hz=>?_⟩
 ·obtain ⟨j,hj⟩:=List.mem_iff_getElem?.1 hy
  rw [List.getElem?_drop] at hj
  exact swo_ltN.asymmA (h1 _ y (by omega) hj)
 ·rcases List.mem_cons.1 hz with rfl | hz
  ·obtain ⟨j,hj⟩:=List.mem_iff_getElem?.1 hy
   rw [List.getElem?_take] at hj
   split at hj
   ·exact h2 j y (by assumption) hj
   ·cases hj
  ·exact ha.2.2 y hy z hz
theorem insN_perm (out:List Nd) (x:Nd):(insN out x).Perm (x::out):=by
 unfold insN
 have h:=List.perm_middle (a:=x) (l₁:=out.take (atN out x out.length)) (l₂:=out.drop (atN out x out.length))
 rw [List.take_append_drop] at h
 exact h
theorem fold_asc:∀ (l out:List Nd),AscN out→AscN (l.foldl insN out)
 | [],_,h=>h
 | x::r,out,h=>fold_asc r _ (insN_asc x h)
theorem fold_perm:∀ (l out:List Nd),(l.foldl insN out).Perm (l++out)
 | [],_=>List.Perm.refl _
 | x::r,out=>by
  rw [List.foldl_cons,List.cons_append]
  exact (fold_perm r _).trans (((insN_perm out x).append_left r).trans List.perm_middle)
theorem sortN_asc (l:List Nd):AscN (sortN l):=fold_asc l [] List.Pairwise.nil
theorem sortN_perm (l:List Nd):(sortN l).Perm l:=by
 have:=fold_perm l []
 rwa [List.append_nil] at this
def KeysN (l:List Nd):Prop:=∀ (i k:Nat) (x y:Nd),k<i→l[i]?=some x→l[k]?=some y→x.key≠y.key∧x.id≠y.id
theorem check_keys {l:List Nd} (h:checkN l=0):KeysN l:=by
 unfold checkN at h
 split at h
 ·omega
 ·split at h
  ·omega
  ·split at h
   ·omega
   ·rename_i hd
    intro i k x y hk hx hy
    have:¬ eqN x y=true:=fun he=>hd ((dupN_iff l).2 ⟨i,k,x,y,hk,hx,hy,he⟩)
    unfold eqN at this
    simp only [Bool.or_eq_true,beq_iff_eq,not_or] at this
    exact ⟨fun he=>this.2 (by rw [he]),this.1⟩
theorem keys_eq {l:List Nd} (h:KeysN l) {x y:Nd} (hx:x∈l) (hy:y∈l) (he:x.key.toList=y.key.toList):x=y:=by
 obtain ⟨i,hi⟩:=List.mem_iff_getElem?.1 hx
 obtain ⟨k,hk⟩:=List.mem_iff_getElem?.1 hy
 have hke:x.key=y.key:=by
  rw [ByteArray.toList_eq,ByteArray.toList_eq] at he
  exact ByteArray.ext (Array.toList_inj.1 he)
 rcases Nat.lt_trichotomy i k with hlt | rfl | hlt
 ·exact absurd hke.symm (h k i y x hlt hk hi).1
 ·exact Option.some.inj (hi.symm.trans hk)
 ·exact absurd hke (h i k x y hlt hi hk).1
theorem ids_eq {l:List Nd} (h:KeysN l) {x y:Nd} (hx:x∈l) (hy:y∈l) (he:x.id=y.id):x=y:=by
 obtain ⟨i,hi⟩:=List.mem_iff_getElem?.1 hx
 obtain ⟨k,hk⟩:=List.mem_iff_getElem?.1 hy
 rcases Nat.lt_trichotomy i k with hlt | rfl | hlt
 ·exact absurd he.symm (h k i y x hlt hk hi).2
 ·exact Option.some.inj (hi.symm.trans hk)
 ·exact absurd he (h i k x y hlt hi hk).2
theorem sortN_unique {l S:List Nd} (hk:KeysN l) (hp:S.Perm l) (hs:AscN S):S=sortN l:=by
 refine List.Perm.eq_of_pairwise (le:=fun x y=>ltN y x=false) ?_ hs (sortN_asc l) (hp.trans (sortN_perm l).symm)
 intro a b ha hb h1 h2
 have ha:=hp.mem_iff.1 ha
 have hb:=(sortN_mem l b).1 hb
 rw [ltN_no] at h1 h2
 rcases h1 with h1 | ⟨h1,_⟩
 ·rcases h2 with h2 | ⟨h2,_⟩
  ·rw [bl_asymm h1] at h2;cases h2
  ·exact keys_eq hk ha hb h2
 ·exact (keys_eq hk hb ha h1).symm
def PredG (g:Nat) (lb:Array Value) (p:Nd→Bool) (w:World):Prop:=∀ (x:Nd) (w':World),Ex w w'→Calls Tryz.prog g (#[x.val]++lb) w' fun e w''=>e=.returned (.bool (p x))∧Ex w' w''
theorem PredG.nx {g:Nat} {lb:Array Value} {p:Nd→Bool} {w w':World} (h:PredG g lb p w) (k:Ex w w'):PredG g lb p w':=fun x w'' k2=>h x w'' (k.nx k2)
def idxB (p:Nd→Bool) (l:List Nd):Int:=if l.findIdx p<l.length then (l.findIdx p:Int) else -1
theorem idxB_of {p:Nd→Bool} {l:List Nd} {k:Nat} {y:Nd} (hy:l[k]?=some y) (hp:p y=true) (hno:∀ j z,j<k→l[j]?=some z→p z=false):idxB p l=k∧k<l.length:=by
 have hk:=(List.getElem?_eq_some_iff.1 hy)
 have hk1:=hk.1
 have:l.findIdx p=k:=by
  rw [List.findIdx_eq hk.1]
  refine ⟨by rw [hk.2];exact hp,fun j hj=>?_⟩
  exact hno j _ hj (List.getElem?_eq_getElem (by omega))
 unfold idxB
 rw [this,if_pos hk.1]
 exact ⟨rfl,hk.1⟩
theorem idxB_none {p:Nd→Bool} {l:List Nd} (hno:∀ j z,j<l.length→l[j]?=some z→p z=false):idxB p l = -1:=by
 unfold idxB
 rw [if_neg]
 rw [List.findIdx_lt_length]
 rintro ⟨x,hx,hp⟩
 obtain ⟨j,hj⟩:=List.mem_iff_getElem?.1 hx
 rw [hno j x (List.getElem?_eq_some_iff.1 hj).1 hj] at hp
 cases hp
theorem idxB_any (p:Nd→Bool) (l:List Nd):decide (0≤idxB p l)=l.any p:=by
 unfold idxB
 split
 ·rename_i h
  rw [List.findIdx_lt_length] at h
  have h1:l.any p=true:=List.any_eq_true.2 h
  rw [h1];simp
 ·rename_i h
  rw [List.findIdx_lt_length] at h
  have h1:l.any p=false:=by
   rw [List.any_eq_false]
   intro x hx hp
   exact h ⟨x,hx,hp⟩
  rw [h1];simp
def IdRel (p:Nd→Bool) (l:List Nd) (n:Nat) (w:World) (i:Value) (wr:World):Prop :=
 ∃ k:Nat,k≤n∧i=.int .i64 k∧Ex w wr∧∀ j z,j<k→l[j]?=some z→p z=false
set_option maxRecDepth 100000 in
set_option maxHeartbeats 2000000 in
theorem idxf_n (g:Nat) (lb:Array Value) (p:Nd→Bool) (eg:∀ args w,(callFunc g args).run Tryz.prog w=.ok (.enter g args) w) (a:Option Addr) (n c:Nat) (l:List Nd) (w:World) (h:Sl 3 encN w a n l) (hn:n≤1000000) (hp:PredG g lb p w) :
  Calls Tryz.prog 126 #[.slice a n c,.func (.func g) #[] lb] w fun e w'=>e=.returned (.int .i64 (idxB p l))∧Ex w w':=by
 have HL:=lH h.len
 have HP:=lH hp
 have hs:=lH h
 clear h hp
 go_enter Tryz.func126,Tryz.ntmps126
 go_wp2
 go_loopw [8] (fun i wr=>IdRel p l n w i wr) (fun i _=>n-(intOf i).toNat)
 case atStart=>exact ⟨0,by omega,rfl,Ex.refl _,by intro j z h;omega⟩
 case round =>
  obtain ⟨k,hk,rfl,kw,hno⟩:=hrel
  have HNO:=lH hno
  clear hno
  obtain ⟨wo,rfl⟩:∃ wo:World,wo=wr:=⟨_,rfl⟩
  by_cases hlt:k<n
  ·obtain ⟨x1,o1,y,rfl,hx1,hy,hc1⟩:=(hs.out.nx kw).at hlt
   have e0:wo.cell? ⟨x1,o1+k*3,none⟩=some (.int .i64 y.id):=hc1 0 _ rfl
   have e1:wo.cell? ⟨x1,o1+k*3+1,none⟩=some (.string y.key):=hc1 1 _ rfl
   have e2:wo.cell? ⟨x1,o1+k*3+1+1,none⟩=some (.int .u32 y.word):=by simpa [Nat.add_assoc] using hc1 2 _ rfl
   have e2':wo.cell? ⟨x1,o1+k*3+2,none⟩=some (.int .u32 y.word):=hc1 2 _ rfl
   have HY:=lH hy
   have hc:=HP.out y wo kw
   have KW:=lH kw
   clear hc1 hy kw
   unfold Nd.val at hc
   go_wp2_with fail
   refine hc.mono ?_
   rintro e w2 ⟨rfl,k2⟩
   have K2:=lH (KW.out.nx k2)
   clear hc k2 e0 e1 e2 e2'
   cases hb:p y with
   | true =>
    have HI:Hid (idxB p l=k):=lH (idxB_of HY.out hb HNO.out).1
    clear hb
    go_wp2_with fail
    go_ret
    exact ⟨by rw [HI.out];rfl,K2.out⟩
   | false =>
    have HB:=lH hb
    clear hb
    go_wp2_with fail
    refine ⟨⟨k+1,by omega,by go_num,K2.out,fun j z hj hz=>?_⟩,by simp [intOf];omega⟩
    rcases Nat.lt_or_ge j k with h | h
    ·exact HNO.out j z h hz
    ·obtain rfl:j=k:=by omega
     rw [Option.some.inj (hz.symm.trans HY.out)]
     exact HB.out
  ·obtain rfl:k=n:=by omega
   have HI:Hid (idxB p l = -1):=lH (idxB_none (fun j z hj hz=>HNO.out j z (by rw [← HL.out];exact hj) hz))
   have KW:=lH kw
   clear kw hk hlt
   go_wp2_with fail
   go_ret
   exact ⟨by rw [HI.out];rfl,KW.out⟩
theorem contf_n (g:Nat) (lb:Array Value) (p:Nd→Bool) (eg:∀ args w,(callFunc g args).run Tryz.prog w=.ok (.enter g args) w) (a:Option Addr) (n c:Nat) (l:List Nd) (w:World) (h:Sl 3 encN w a n l) (hn:n≤1000000) (hp:PredG g lb p w) :
  Calls Tryz.prog 123 #[.slice a n c,.func (.func g) #[] lb] w fun e w'=>e=.returned (.bool (l.any p))∧Ex w w':=by
 have HA:=lH (idxB_any p l)
 go_enter Tryz.func123,Tryz.ntmps123
 go_wp2_with fail
 (with_reducible refine (idxf_n g lb p eg _ _ _ _ _ h hn hp).mono ?_)
 rintro e w1 ⟨rfl,kk⟩
 clear h hp
 go_wp2_with fail
 go_ret
 exact ⟨by rw [← HA.out];rfl,kk⟩
theorem find1_p (gx:Nat) (id:Int) (w:World) (hx:Blk w gx [.int .i64 id] 3):PredG 127 #[.pointer (some ⟨gx,0,none⟩)] (fun x=>x.id==id) w:=by
 intro x w' kk
 have q0:=(hx.nx kk).cell 0 _ rfl
 have hg:=(hx.nx kk).lt
 have hne:¬ gx=w'.heap.size:=by omega
 unfold Nd.val
 clear hx kk
 go_enter Tryz.func127,Tryz.ntmps127
 go_wp2
 go_ret
 exact ⟨rfl,(Ex.refl _).alloc _⟩
theorem idxB_find (l:List Nd) (id:Int):(∃ (k:Nat) (y:Nd),idxB (fun x=>x.id==id) l=k∧k<l.length∧l[k]?=some y∧findN l id=(y,true))∨(idxB (fun x=>x.id==id) l = -1∧findN l id=(Nd.zero,false)):=by
 unfold findN idxB
 by_cases h:l.findIdx (fun x=>x.id==id)<l.length
 ·refine .inl ⟨l.findIdx (fun x=>x.id==id),l[l.findIdx (fun x=>x.id==id)],by rw [if_pos h],h,List.getElem?_eq_getElem h,?_⟩
  rw [List.find?_eq_getElem?_findIdx,List.getElem?_eq_getElem h]
 ·refine .inr ⟨by rw [if_neg h],?_⟩
  rw [List.find?_eq_getElem?_findIdx,List.getElem?_eq_none (by omega)]
def NbPost (r:Nd×Bool) (w:World) (e:Ending) (w':World):Prop:=e=.returned (.tuple #[r.1.val,.bool r.2])∧Ex w w'
set_option maxRecDepth 100000 in
set_option maxHeartbeats 2000000 in
theorem find_p (a:Option Addr) (n c:Nat) (l:List Nd) (id:Int) (w:World) (h:Sl 3 encN w a n l) (hn:n≤1000000) :
  Calls Tryz.prog 62 #[.slice a n c,.int .i64 id] w (NbPost (findN l id) w):=by
 have HL:=lH h.len
 have hs:=lH h
 have k1:=Ex.new w (.cells #[.int .i64 id] 3)
 have B1:=Blk.new w [.int .i64 id] 3
 have k2:=k1.alloc (.cells #[.int .i64 0,.string ⟨#[]⟩,.int .u32 0] 60)
 have B2:=Blk.new (w.alloc (.cells #[.int .i64 id] 3)) [.int .i64 0,.string ⟨#[]⟩,.int .u32 0] 60
 have B1:=B1.nx (Ex.new _ (.cells #[.int .i64 0,.string ⟨#[]⟩,.int .u32 0] 60))
 obtain ⟨w1,hw1⟩:∃ w1,w1=(w.alloc (.cells #[.int .i64 id] 3)).alloc (.cells #[.int .i64 0,.string ⟨#[]⟩,.int .u32 0] 60):=⟨_,rfl⟩
 obtain ⟨g,hg⟩:∃ g,g=w.heap.size+1:=⟨_,rfl⟩
 obtain ⟨gi,hgi⟩:∃ gi,gi=w.heap.size:=⟨_,rfl⟩
 have B2:Blk w1 g [.int .i64 0,.string ⟨#[]⟩,.int .u32 0] 60:=by rw [hw1,hg];simpa using B2
 have B1:Blk w1 gi [.int .i64 id] 3:=by rw [hw1,hgi];exact B1
 rw [← hw1] at k2
 have hgn:w.heap.size≤g:=by omega
 have eg:∀ args w,(callFunc 127 args).run Tryz.prog w=.ok (.enter 127 args) w:=enters_of Tryz.func127 (by kernel_rfl) rfl
 have HW1:=lH hw1
 have HG:=lH hg
 have HGI:=lH hgi
 have EG:=lH eg
 clear h hw1 hg hgi k1 eg
 go_enter Tryz.func62,Tryz.ntmps62
 go_upto_region 1 with fail
 rw [← HG.out,← HW1.out,← HGI.out]
 go_wp2_with fail
 (with_reducible refine (idxf_n 127 #[.pointer (some ⟨gi,0,none⟩)] (fun x=>x.id==id) EG.out _ _ _ _ _ (hs.out.nx k2) hn (find1_p gi id w1 B1)).mono ?_)
 rintro e w3 ⟨rfl,k3⟩
 have B3:=B2.nx k3
 have q0:=B3.cell 0 _ rfl
 have q1:=B3.cell 1 _ rfl
 have q2:=B3.cell 2 _ rfl
 have z0:=B3.free 0
 have z1:=B3.free 1
 have z2:=B3.free 2
 have kk:=k2.nx k3
 have KE:Hid (∀ v0 v1 v2,Ex w (((w3.setCell ⟨g,0,none⟩ v0).setCell ⟨g,1,none⟩ v1).setCell ⟨g,2,none⟩ v2)):=lH (fun v0 v1 v2=>((kk.setNew (p:=⟨g,0,none⟩) _ hgn).setNew (p:=⟨g,1,none⟩) _ hgn).setNew (p:=⟨g,2,none⟩) _ hgn)
 have hgw:=B3.lt
 rcases idxB_find l id with ⟨k,y,hi,hk,hy,hf⟩ | ⟨hi,hf⟩
 ·rw [hi]
  have HF:=lH hf
  obtain ⟨x1,o1,y',ha,hx1,hy',hc1⟩:=(hs.out.nx kk).at (j:=k) (by rw [← HL.out];exact hk)
  obtain rfl:y=y':=Option.some.inj (hy.symm.trans hy')
  subst ha
  have e0:w3.cell? ⟨x1,o1+k*3,none⟩=some (.int .i64 y.id):=hc1 0 _ rfl
  have e1:w3.cell? ⟨x1,o1+k*3+1,none⟩=some (.string y.key):=hc1 1 _ rfl
  have e2:w3.cell? ⟨x1,o1+k*3+1+1,none⟩=some (.int .u32 y.word):=by simpa [Nat.add_assoc] using hc1 2 _ rfl
  have hkn:(k:Int)<(n:Int):=by have:=HL.out;omega
  have hk0:¬ (k:Int)<0:=by omega
  clear hi hf hy hy' hc1 B1 B2 B3 k2 k3 kk hk
  go_wp2_with fail
  refine bodyPost_ret (v:=.tuple #[.agg #[.int .i64 y.id,.string y.key,.int .u32 y.word],.bool true]) (by simp [results,Tryz.results62,go_sem, *]) rfl ⟨by rw [HF.out];rfl,KE.out _ _ _⟩
 ·rw [hi]
  have HF:=lH hf
  clear hi hf B1 B2 B3 k2 k3 kk
  go_wp2_with fail
  refine bodyPost_ret (v:=.tuple #[.agg #[.int .i64 0,.string ⟨#[]⟩,.int .u32 0],.bool false]) (by simp [results,Tryz.results62,go_sem, *]) rfl ⟨by rw [HF.out];rfl,KE.out _ _ _⟩
theorem Tryz.infoI6:(Tryz.prog.info? 3).map (fun i=>(i.zero,i.size,i.bytes))=some (some (.int .i64 0),1,8):=by kernel_rfl
def enc0:Unit→List Value:=fun _=>[]
end Go.Proofs.YthdkeibapcaclaaGreatDoor
