/- Shared texts. -/
import Derived.Test.YtalmjklljofhbaaGreatDoorSxAll10
import Derived.Test.YtalmjklljofhbaaGreatDoorSxAll11
import Derived.Test.YtalmjklljofhbaaGreatDoorSxAll12
set_option linter.unusedSimpArgs false
set_option linter.unusedVariables false

namespace Go.Proofs.YtalmjklljofhbaaGreatDoor
open Go.RowKit
def AscS (l:List Nd):Prop:=l.Pairwise fun x y=>Op.bytesLess x.key.toList y.key.toList=true∧x.id≠y.id
theorem keys_pw {l:List Nd} (h:KeysN l):l.Pairwise fun x y=>x.key.toList≠y.key.toList∧x.id≠y.id:=by
 rw [List.pairwise_iff_getElem]
 intro i j hi hj hij
 have:=h j i l[j] l[i] hij (List.getElem?_eq_getElem hj) (List.getElem?_eq_getElem hi)
 refine ⟨fun he=>this.1 ?_,fun he=>this.2 he.symm⟩
 rw [ByteArray.toList_eq,ByteArray.toList_eq] at he
 exact (ByteArray.ext (Array.toList_inj.1 he)).symm
theorem sortN_str {l:List Nd} (h:checkN l=0):AscS (sortN l):=by
 have h1:(sortN l).Pairwise fun x y=>x.key.toList≠y.key.toList∧x.id≠y.id :=
  ((sortN_perm l).symm.pairwise_iff (fun {x y} hxy=>⟨fun he=>hxy.1 he.symm,fun he=>hxy.2 he.symm⟩)).1 (keys_pw (check_keys h))
 have h2:=sortN_asc l
 unfold AscN at h2
 unfold AscS
 refine (h1.and h2).imp ?_
 rintro x y ⟨⟨a,b⟩,c⟩
 rw [ltN_no] at c
 rcases c with c | ⟨c,_⟩
 ·exact ⟨c,b⟩
 ·exact absurd c.symm a
theorem asc_group {l:List Nd} (h:AscS l) (lev:Int) (v:Nat):AscS (groupN l lev v):=List.Pairwise.filter _ h
theorem asc_at {G:List Nd} (h:AscS G) {i j:Nat} {x y:Nd} (hx:G[i]?=some x) (hy:G[j]?=some y) (hij:i<j):Op.bytesLess x.key.toList y.key.toList=true∧x.id≠y.id:=by
 obtain ⟨hi,e1⟩:=List.getElem?_eq_some_iff.1 hx
 obtain ⟨hj,e2⟩:=List.getElem?_eq_some_iff.1 hy
 have:=List.pairwise_iff_getElem.1 h i j hi hj hij
 rwa [e1,e2] at this
theorem idxI_at {G:List Nd} (h:AscS G) {i:Nat} {x:Nd} (hx:G[i]?=some x):idxI G x.id=i:=by
 refine idxI_of hx rfl fun j z hj hz=>?_
 exact (asc_at h hz hx hj).2
theorem step_less {x y:Nd} {s:Int×Int} (h:Op.bytesLess y.key.toList x.key.toList=true):nbStep x s y=(y.id,s.2):=by unfold nbStep;rw [h];rfl
theorem step_same (x:Nd) (s:Int×Int):nbStep x s x=s:=by unfold nbStep;simp [bytesLess_irrefl]
theorem step_more {x y:Nd} {s:Int×Int} (h:Op.bytesLess x.key.toList y.key.toList=true):nbStep x s y=(s.1,if s.2=0 then y.id else s.2):=by
 have h1:=bl_asymm h
 have h2:(y.key.toList==x.key.toList)=false:=by
  rw [beq_eq_false_iff_ne]
  intro he
  rw [he,bytesLess_irrefl] at h
  cases h
 unfold nbStep
 rw [h1,h2]
 simp
theorem nbFold_a {G:List Nd} (h:AscS G) {i:Nat} {x:Nd} (hx:G[i]?=some x):∀ k,k≤i→nbFold x (G.take k)=(leftN G k,0):=by
 intro k
 induction k with
 | zero=>intro _;rfl
 | succ k ih =>
  intro hk
  have hl:=(List.getElem?_eq_some_iff.1 hx).1
  obtain ⟨y,hy⟩:∃ y,G[k]?=some y:=⟨G[k],List.getElem?_eq_getElem (by omega)⟩
  rw [nbFold_snoc x G k y hy,ih (by omega),step_less (asc_at h hy hx (by omega)).1]
  show ((y.id,0):Int×Int)=(leftN G (k+1),0)
  unfold leftN
  rw [if_neg (by omega),Nat.add_sub_cancel,hy]
  rfl
theorem nbFold_b {G:List Nd} (h:AscS G) {i:Nat} {x:Nd} (hx:G[i]?=some x):nbFold x (G.take (i+1))=(leftN G i,0):=by
 rw [nbFold_snoc x G i x hx,nbFold_a h hx i (Nat.le_refl _),step_same]
theorem nbFold_c {G:List Nd} (h:AscS G) (hid:∀ y∈G,1≤y.id) {i:Nat} {x:Nd} (hx:G[i]?=some x):∀ d,i+2+d≤G.length→nbFold x (G.take (i+2+d))=(leftN G i,rightN G i):=by
 intro d hd
 have hd0:i+1<G.length:=by omega
 obtain ⟨z,hz⟩:∃ z,G[i+1]?=some z:=⟨G[i+1],List.getElem?_eq_getElem hd0⟩
 have hz1:=hid z (List.mem_of_getElem? hz)
 have hr:rightN G i=z.id:=by unfold rightN;rw [hz];rfl
 induction d with
 | zero =>
  rw [Nat.add_zero,show i+2=i+1+1 from rfl,nbFold_snoc x G (i+1) z hz,nbFold_b h hx,step_more (asc_at h hx hz (by omega)).1,hr]
  rfl
 | succ d ih =>
  obtain ⟨y,hy⟩:∃ y,G[i+2+d]?=some y:=⟨G[i+2+d]'(by omega),List.getElem?_eq_getElem (by omega)⟩
  rw [← Nat.add_assoc,nbFold_snoc x G (i+2+d) y hy,ih (by omega),step_more (asc_at h hx hy (by omega)).1]
  show (leftN G i,if rightN G i=0 then y.id else rightN G i)=_
  rw [if_neg (by rw [hr];omega)]
theorem nbFold_all {G:List Nd} (h:AscS G) (hid:∀ y∈G,1≤y.id) {i:Nat} {x:Nd} (hx:G[i]?=some x):nbFold x G=(leftN G i,rightN G i):=by
 have hl:=(List.getElem?_eq_some_iff.1 hx).1
 rcases Nat.lt_or_ge (i+1) G.length with h1 | h1
 ·have:=nbFold_c h hid hx (G.length-(i+2)) (by omega)
  rwa [show i+2+(G.length-(i+2))=G.length by omega,List.take_length] at this
 ·have:=nbFold_b h hx
  rw [show i+1=G.length by omega,List.take_length] at this
  rw [this]
  have:rightN G i=0:=by unfold rightN;rw [List.getElem?_eq_none h1];rfl
  rw [this]
theorem neighN_no {l:List Nd} {id h:Int} (hno:checkN l≠0∨(findN l id).2=false∨lvlN h=false):neighN l id h=((0,0),false):=by
 have ht:throughN l id h=([],0,false):=by
  unfold throughN
  rw [if_neg]
  rintro ⟨h1,h2,h3,_⟩
  rcases hno with h | h | h
  ·exact h (by simpa using h2)
  ·rw [h1] at h;cases h
  ·rw [h3] at h;cases h
 unfold neighN
 rw [ht]
 rfl
theorem findN_mem {l:List Nd} {id:Int} (h:(findN l id).2=true):(findN l id).1∈l∧(findN l id).1.id=id:=by
 unfold findN at *
 cases e:l.find? (fun x=>x.id==id) with
 | none=>rw [e] at h;cases h
 | some x =>
  exact ⟨List.mem_of_find?_eq_some e,by simpa using List.find?_some e⟩
theorem neighN_yes {l:List Nd} {id h:Int} (h1:checkN l=0) (h2:(findN l id).2=true) (h3:lvlN h=true) :
  ∃ i,(thrG l id h)[i]?=some (findN l id).1∧throughN l id h=(thrG l id h,i,true)∧neighN l id h=((leftN (thrG l id h) i,rightN (thrG l id h) i),true):=by
 obtain ⟨m1,m2⟩:=findN_mem h2
 have hA:AscS (thrG l id h):=asc_group (sortN_str h1) h _
 have hm:(findN l id).1∈thrG l id h:=by
  unfold thrG groupN
  rw [List.mem_filter]
  exact ⟨(sortN_mem l _).2 m1,sameN_refl _ (by unfold lvlN at h3;simp at h3;exact h3.2)⟩
 obtain ⟨i,hi⟩:=List.mem_iff_getElem?.1 hm
 have hid:=idxI_at hA hi
 rw [m2] at hid
 have hlt:=(List.getElem?_eq_some_iff.1 hi).1
 have ht:throughN l id h=(thrG l id h,i,true):=by
  unfold throughN
  rw [if_pos ⟨h2,by rw [h1];rfl,h3,by rw [hid];exact hlt⟩,hid]
 refine ⟨i,hi,ht,?_⟩
 unfold neighN
 rw [ht]
 rfl
theorem nbFold_neigh {l:List Nd} {id h:Int} (h1:checkN l=0) (h2:(findN l id).2=true) (h3:lvlN h=true):neighN l id h=(nbFold (findN l id).1 (thrG l id h),true):=by
 obtain ⟨i,hi,_,hn⟩:=neighN_yes h1 h2 h3
 have hA:AscS (thrG l id h):=asc_group (sortN_str h1) h _
 have hid:∀ y∈thrG l id h,1≤y.id:=fun y hy=>by
  unfold thrG groupN at hy
  have:=(sortN_mem l y).1 (List.mem_filter.1 hy).1
  unfold checkN at h1
  split at h1
  ·omega
  ·split at h1
   ·omega
   ·rename_i hb
    have hb:badN y=false:=by
     cases hy2:badN y with
     | false=>rfl
     | true=>exact absurd (List.any_eq_true.2 ⟨y,this,hy2⟩) hb
    unfold badN at hb
    simp only [Bool.or_eq_false_iff,decide_eq_false_iff_not] at hb
    omega
 rw [hn,nbFold_all hA hid hi]
def NiRel (x:Nd) (G:List Nd) (g12:Nat) (w:World) (i:Value) (wr:World):Prop :=
 ∃ k:Nat,k≤G.length∧i=.int .i64 k∧Exb g12 w wr∧Blk wr g12 [.int .i64 (nbFold x (G.take k)).1,.int .i64 (nbFold x (G.take k)).2] 81
theorem ng_no {l:List Nd} {id h:Int} {w w':World} (hno:neighN l id h=((0,0),false)) (k:Ex w w'):NgPost (neighN l id h) w (.returned (.tuple #[.agg #[.int .i64 0,.int .i64 0],.bool false])) w':=by
 rw [hno];exact ⟨rfl,k⟩
theorem OwnL.sl3 {sz e base:Nat} {α:Type} {enc:α→List Value} {w:World} {v:Value} {l:List α} (h:OwnL sz enc e base w v l) (hsz:∀ y,(enc y).length=sz):∃ a cap,v=.slice a l.length cap∧Sl sz enc w a l.length l∧l.length≤cap∧cap≤maxLen:=by
 obtain ⟨a,cap,e,h1,h2,h3,_⟩:=h.rd hsz
 exact ⟨a,cap,e,h1.mono (fun _ hk=>hk.2),h2,h3⟩
set_option maxRecDepth 100000 in
set_option maxHeartbeats 2000000 in
theorem neigh_p (a:Option Addr) (n c:Nat) (l:List Nd) (id h:Int) (w:World) (hs:Sl 3 encN w a n l) (hn:n≤1000) (hc:n≤c) (hm:c≤maxLen) (hw:∀ x∈l,x.word<4294967296) (hT:TabG w) :
  Calls Tryz.prog 55 #[.slice a n c,.int .i64 id,.int .i64 h] w (NgPost (neighN l id h) w):=by
 have HW:=lH hw
 have HXW:=findN_word hw id
 have HL:=lH hs.len
 have k1:=Ex.new w (.cells #[.int .i64 0,.int .i64 0] 81)
 have B1:=Blk.new w [.int .i64 0,.int .i64 0] 81
 obtain ⟨w1,hw1⟩:∃ w1,w1=w.alloc (.cells #[.int .i64 0,.int .i64 0] 81):=⟨_,rfl⟩
 obtain ⟨g,hg⟩:∃ g,g=w.heap.size:=⟨_,rfl⟩
 have B1:Blk w1 g [.int .i64 0,.int .i64 0] 81:=by rw [hw1,hg];exact B1
 rw [← hw1] at k1
 have hgn:w.heap.size≤g:=by omega
 have HW1:=lH hw1
 have HG:=lH hg
 have S1:=hs.nx k1
 have HT:=lH (hT.nx k1)
 clear hs hw1 hg hw hT
 go_enter Tryz.func55,Tryz.ntmps55
 go_upto_region 1 with fail
 rw [← HG.out,← HW1.out]
 go_wp2_with fail
 (with_reducible refine (ordered_p _ _ _ _ _ S1 hn hc hm).mono ?_)
 rintro e w2 ⟨v,S,rfl,OS,⟨hp,hsrt⟩,k2⟩
 have SL:=lH hp.length_eq
 have HSR:=lH hsrt
 have SW:Hid (∀ x∈S,x.word<4294967296):=lH (fun x hx=>HW.out x (hp.mem_iff.1 hx))
 replace S1:=S1.nx k2
 replace B1:=B1.nx k2
 replace HT:=lH (HT.out.nx k2)
 replace k1:=k1.nx k2
 have OS:=lH OS
 clear hp hsrt k2
 go_wp2_with fail
 (with_reducible refine (find_p _ _ _ _ _ _ S1 (by omega)).mono ?_)
 rintro e w3 ⟨rfl,k3⟩
 obtain ⟨F,hF⟩:∃ F,F=findN l id:=⟨_,rfl⟩
 have HF:=lH hF
 rw [← hF] at HXW ⊢
 obtain ⟨⟨xi,xk,xw⟩,ok⟩:=F
 have k4:=Ex.new w3 (.cells #[.int .i64 xi,.string xk,.int .u32 xw] 49)
 have B2:=Blk.new w3 [.int .i64 xi,.string xk,.int .u32 xw] 49
 obtain ⟨w4,hw4⟩:∃ w4,w4=w3.alloc (.cells #[.int .i64 xi,.string xk,.int .u32 xw] 49):=⟨_,rfl⟩
 obtain ⟨g2,hg2⟩:∃ g2,g2=w3.heap.size:=⟨_,rfl⟩
 have B2:Blk w4 g2 [.int .i64 xi,.string xk,.int .u32 xw] 49:=by rw [hw4,hg2];exact B2
 rw [← hw4] at k4
 have HW4:=lH hw4
 have HG2:=lH hg2
 replace k3:=k3.nx k4
 replace OS:=lH (OS.out.nx k3)
 replace B1:=B1.nx k3
 replace HT:=lH (HT.out.nx k3)
 replace k1:=k1.nx k3
 clear hF hw4 hg2 k4 k3 S1
 simp only [Nd.val]
 go_upto_region 3 with fail
 rw [← HG2.out,← HW4.out]
 by_cases hck:checkN l=0
 case neg =>
  have HNO:Hid (neighN l id h=((0,0),false)):=lH (neighN_no (.inl hck))
  have d1:(checkN l==0)=false:=by simpa using hck
  rw [d1]
  have q0:=B1.cell 0 _ rfl
  have q1:=B1.cell 1 _ rfl
  have z0:=B1.free 0
  have z1:=B1.free 1
  clear hck d1 B2
  go_wp2_with fail
  refine bodyPost_ret (v:=.tuple #[.agg #[.int .i64 0,.int .i64 0],.bool false]) (by simp [results,Tryz.results55,go_sem, *]) rfl (ng_no HNO.out ?_)
  exact (k1.setNew (p:=⟨g,0,none⟩) _ hgn).setNew (p:=⟨g,1,none⟩) _ hgn
 have HCK:=lH hck
 have d1:(checkN l==0)=true:=by simpa using hck
 rw [d1]
 clear hck d1
 cases ok with
 | false =>
  have HNO:Hid (neighN l id h=((0,0),false)):=lH (neighN_no (.inr (.inl (by rw [← HF.out]))))
  have q0:=B1.cell 0 _ rfl
  have q1:=B1.cell 1 _ rfl
  have z0:=B1.free 0
  have z1:=B1.free 1
  clear B2
  go_wp2_with fail
  refine bodyPost_ret (v:=.tuple #[.agg #[.int .i64 0,.int .i64 0],.bool false]) (by simp [results,Tryz.results55,go_sem, *]) rfl (ng_no HNO.out ?_)
  exact (k1.setNew (p:=⟨g,0,none⟩) _ hgn).setNew (p:=⟨g,1,none⟩) _ hgn
 | true =>
  by_cases hlo:h<0
  ·have HNO:Hid (neighN l id h=((0,0),false)):=lH (neighN_no (.inr (.inr (by unfold lvlN;simp;omega))))
   have q0:=B1.cell 0 _ rfl
   have q1:=B1.cell 1 _ rfl
   have z0:=B1.free 0
   have z1:=B1.free 1
   clear B2
   go_wp2_with fail
   refine bodyPost_ret (v:=.tuple #[.agg #[.int .i64 0,.int .i64 0],.bool false]) (by simp [results,Tryz.results55,go_sem, *]) rfl (ng_no HNO.out ?_)
   exact (k1.setNew (p:=⟨g,0,none⟩) _ hgn).setNew (p:=⟨g,1,none⟩) _ hgn
  ·by_cases hhi:16<h
   ·have HNO:Hid (neighN l id h=((0,0),false)):=lH (neighN_no (.inr (.inr (by unfold lvlN;simp;omega))))
    have q0:=B1.cell 0 _ rfl
    have q1:=B1.cell 1 _ rfl
    have z0:=B1.free 0
    have z1:=B1.free 1
    clear B2
    go_wp2_with fail
    refine bodyPost_ret (v:=.tuple #[.agg #[.int .i64 0,.int .i64 0],.bool false]) (by simp [results,Tryz.results55,go_sem, *]) rfl (ng_no HNO.out ?_)
    exact (k1.setNew (p:=⟨g,0,none⟩) _ hgn).setNew (p:=⟨g,1,none⟩) _ hgn
   ·have HYES:Hid (neighN l id h=(nbFold ⟨xi,xk,xw⟩ (groupN S h xw),true)):=lH (by
     have:=nbFold_neigh (l:=l) (id:=id) (h:=h) HCK.out (by rw [← HF.out]) (by unfold lvlN;simp;omega)
     unfold thrG at this
     rw [← HF.out,← HSR.out HCK.out] at this
     exact this)
    have k5:=Ex.new w4 (.cells #[.int .i64 0,.int .i64 0] 81)
    have B3:=Blk.new w4 [.int .i64 0,.int .i64 0] 81
    obtain ⟨w5,hw5⟩:∃ w5,w5=w4.alloc (.cells #[.int .i64 0,.int .i64 0] 81):=⟨_,rfl⟩
    obtain ⟨g3,hg3⟩:∃ g3,g3=w4.heap.size:=⟨_,rfl⟩
    have B3:Blk w5 g3 [.int .i64 0,.int .i64 0] 81:=by rw [hw5,hg3];exact B3
    rw [← hw5] at k5
    have h13:g≠g3:=by have:=B1.lt;omega
    have h23:g2≠g3:=by have:=B2.lt;omega
    have hgn3:w.heap.size≤g3:=by have:=k1.size;omega
    have HW5:=lH hw5
    have HG3:=lH hg3
    replace OS:=OS.out.nx k5
    replace B1:=B1.nx k5
    replace B2:=B2.nx k5
    replace HT:=lH (HT.out.nx k5)
    replace k1:=k1.nx k5
    obtain ⟨aS,cS,rfl,sS,_,_⟩:=OS.sl3 (fun _=>rfl)
    have b22:=B2.cell 2 _ rfl
    have hnS:S.length≤1000:=by have:=HL.out;have:=SL.out;omega
    clear hw5 hg3 k5
    go_upto_region 6 with fail
    rw [← HG3.out,← HW5.out]
    clear OS
    have sS:Rd 3 encN (· < w5.heap.size) w5 aS S.length S:=sS
    go_wp2_with fail
    (with_reducible refine (group_p _ _ _ _ _ _ _ sS (fun _ hk=>hk) hnS SW.out HXW HT.out).mono ?_)
    rintro e w6 ⟨a6,n6,c6,rfl,r6,k6⟩
    have r6:Slf 3 encN w5 w6 a6 n6 _:=r6
    replace k6:Ex w5 w6:=k6
    have hgl:=groupN_length S h xw
    generalize groupN S h xw=G at r6 HYES hgl ⊢
    have RG:=lH (r6.slb B3.lt)
    have hng:=r6.len
    subst hng
    replace B1:=B1.nx k6
    replace B2:=lH (B2.nx k6)
    replace B3:=B3.nx k6
    replace k1:=k1.nx k6
    have B1:=lH B1
    clear r6 k6 sS b22
    have hG6:G.length≤1000:=by omega
    go_wp2_with fail
    go_loopw [47] (fun i wr=>NiRel ⟨xi,xk,xw⟩ G g3 w6 i wr) (fun i _=>G.length-(intOf i).toNat)
    case atStart=>exact ⟨0,by omega,rfl,Exb.refl _ _,B3⟩
    case round =>
     obtain ⟨k,hk,rfl,kw,B3⟩:=hrel
     obtain ⟨wo,rfl⟩:∃ wo:World,wo=wr:=⟨_,rfl⟩
     by_cases hlt:k<G.length
     ·obtain ⟨x1,o1,y,rfl,hx1,hy,hc1⟩:=((RG.out.nxb kw).sl).at hlt
      obtain ⟨yi,yk,yw⟩:=y
      have e0:wo.cell? ⟨x1,o1+k*3,none⟩=some (.int .i64 yi):=hc1 0 _ rfl
      have e1:wo.cell? ⟨x1,o1+k*3+1,none⟩=some (.string yk):=hc1 1 _ rfl
      have e2:wo.cell? ⟨x1,o1+k*3+2,none⟩=some (.int .u32 yw):=hc1 2 _ rfl
      have e2':wo.cell? ⟨x1,o1+k*3+1+1,none⟩=some (.int .u32 yw):=e2
      have FSn:Hid (nbFold ⟨xi,xk,xw⟩ (G.take (k+1))=nbStep ⟨xi,xk,xw⟩ (nbFold ⟨xi,xk,xw⟩ (G.take k)) ⟨yi,yk,yw⟩):=lH (nbFold_snoc _ _ _ _ hy)
      clear hy hc1
      obtain ⟨FF,hFF⟩:∃ FF,FF=nbFold ⟨xi,xk,xw⟩ (G.take k):=⟨_,rfl⟩
      rw [← hFF] at B3 FSn
      clear hFF
      obtain ⟨f1,f2⟩:=FF
      have k7:=Ex.new wo (.cells #[.int .i64 yi,.string yk,.int .u32 yw] 49)
      have B4:=Blk.new wo [.int .i64 yi,.string yk,.int .u32 yw] 49
      obtain ⟨w7,hw7⟩:∃ w7,w7=wo.alloc (.cells #[.int .i64 yi,.string yk,.int .u32 yw] 49):=⟨_,rfl⟩
      obtain ⟨g4,hg4⟩:∃ g4,g4=wo.heap.size:=⟨_,rfl⟩
      have B4:Blk w7 g4 [.int .i64 yi,.string yk,.int .u32 yw] 49:=by rw [hw7,hg4];exact B4
      rw [← hw7] at k7
      have h34:g3≠g4:=by have:=B3.lt;omega
      have HW7:=lH hw7
      have HG4:=lH hg4
      have B3:=B3.nx k7
      have kw:=kw.nxb (k7.b g3)
      have B2':=B2.out.nxb h23 kw
      clear hw7 hg4 k7
      go_upto_region 9 with fail
      rw [← HG4.out,← HW7.out]
      clear e0 e1 e2 e2'
      have p1:=B2'.cell 1 _ rfl
      have y0:=B4.cell 0 _ rfl
      have y1:=B4.cell 1 _ rfl
      have t0:=B3.cell 0 _ rfl
      have t1:=B3.cell 1 _ rfl
      have z0:=B3.free 0
      have z1:=B3.free 1
      cases hb:Op.bytesLess yk.toList xk.toList with
      | true =>
       have FSn':Hid (nbFold ⟨xi,xk,xw⟩ (G.take (k+1))=(yi,f2)):=lH (by rw [FSn.out];exact step_less hb)
       have B3':=B3.set 0 (.int .i64 yi)
       clear B2' B4 B3
       go_wp2_with fail
       refine ⟨⟨k+1,by omega,by go_num,kw.setB _ rfl,?_⟩,by simp [intOf];omega⟩
       rw [FSn'.out];exact B3'
      | false =>
       cases he:(yk.toList==xk.toList) with
       | true =>
        have FSn':Hid (nbFold ⟨xi,xk,xw⟩ (G.take (k+1))=(f1,f2)):=lH (by rw [FSn.out];unfold nbStep;simp [hb,he])
        have B3':=lH B3
        clear B2' B4 B3
        go_wp2_with fail
        refine ⟨⟨k+1,by omega,by go_num,kw,?_⟩,by simp [intOf];omega⟩
        rw [FSn'.out];exact B3'.out
       | false =>
        by_cases h0:f2=0
        ·have FSn':Hid (nbFold ⟨xi,xk,xw⟩ (G.take (k+1))=(f1,yi)):=lH (by rw [FSn.out];unfold nbStep;simp [hb,he,h0])
         have B3':=B3.set 1 (.int .i64 yi)
         subst h0
         clear B2' B4 B3
         go_wp2_with fail
         refine ⟨⟨k+1,by omega,by go_num,kw.setB _ rfl,?_⟩,by simp [intOf];omega⟩
         rw [FSn'.out];exact B3'
        ·have FSn':Hid (nbFold ⟨xi,xk,xw⟩ (G.take (k+1))=(f1,f2)):=lH (by rw [FSn.out];unfold nbStep;simp [hb,he,h0])
         have d0:(f2==0)=false:=by simpa using h0
         have B3':=lH B3
         clear B2' B4 B3
         go_wp2_with fail
         refine ⟨⟨k+1,by omega,by go_num,kw,?_⟩,by simp [intOf];omega⟩
         rw [FSn'.out];exact B3'.out
     ·obtain rfl:k=G.length:=by omega
      rw [List.take_length] at B3
      have B1':=B1.out.nxb h13 kw
      have kw':=k1.nx (Ex.refl _)
      have KK:Ex w wo:=(Chg.trans k1 (Chg.mono kw (fun q (hq:q<w.heap.size)=>⟨Nat.lt_of_lt_of_le hq k1.size,by omega⟩)))
      obtain ⟨FF,hFF⟩:∃ FF,FF=nbFold ⟨xi,xk,xw⟩ G:=⟨_,rfl⟩
      rw [← hFF] at B3
      have HYES':Hid (neighN l id h=(FF,true)):=lH (by rw [HYES.out,hFF])
      clear hFF HYES
      obtain ⟨f1,f2⟩:=FF
      have t0:=B3.cell 0 _ rfl
      have t1:=B3.cell 1 _ rfl
      have q0:=B1'.cell 0 _ rfl
      have q1:=B1'.cell 1 _ rfl
      have z0:=B1'.free 0
      have z1:=B1'.free 1
      clear B1' B3 hk hlt kw'
      have h13':¬ g=g3:=h13
      go_wp2_with fail
      refine bodyPost_ret (v:=.tuple #[.agg #[.int .i64 f1,.int .i64 f2],.bool true]) (by simp [results,Tryz.results55,go_sem, *]) rfl ⟨by rw [HYES'.out],?_⟩
      exact (KK.setNew (p:=⟨g,0,none⟩) _ hgn).setNew (p:=⟨g,1,none⟩) _ hgn
end Go.Proofs.YtalmjklljofhbaaGreatDoor
