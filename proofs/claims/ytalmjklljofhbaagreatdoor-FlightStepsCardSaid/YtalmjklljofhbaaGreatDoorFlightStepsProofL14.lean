/- Texts for FlightStepsProof. -/
import Derived.BigRegion
import Derived.Lib.SliceRun
import Derived.WideKeyEntry
import Derived.Deep.LoopGhost
import Derived.Test.YtalmjklljofhbaaGreatDoorFlightStepsProofL9
import Derived.Test.YtalmjklljofhbaaGreatDoorFlightStepsProofL13
set_option linter.unusedSimpArgs false
set_option linter.unusedVariables false

namespace Go.Proofs.YtalmjklljofhbaaGreatDoor
open Go.RowKit
theorem find_in {S:List Nd} (h:checkN S=0) {x:Nd} (hx:x∈S):findN S x.id=(x,true):=by
 have h2:(findN S x.id).2=true:=by
  unfold findN
  cases e:S.find? (fun y=>y.id==x.id) with
  | none=>have:=List.find?_eq_none.1 e x hx;simp at this
  | some y=>rfl
 obtain ⟨h3,h4⟩:=findN_mem h2
 have h5:=ids_eq (check_keys h) h3 hx h4
 exact Prod.ext h5 h2
theorem check_id {l:List Nd} (h:checkN l=0) {x:Nd} (hx:x∈l):1≤x.id:=by
 unfold checkN at h
 split at h
 ·omega
 ·split at h
  ·omega
  ·rename_i hb
   have hb:badN x=false:=by
    cases hy2:badN x with
    | false=>rfl
    | true=>exact absurd (List.any_eq_true.2 ⟨x,hx,hy2⟩) hb
   unfold badN at hb
   simp only [Bool.or_eq_false_iff,decide_eq_false_iff_not] at hb
   omega
def lastI (A:List Nd):Int:=(A.getLast?.getD Nd.zero).id
def headI (B:List Nd):Int:=(B.head?.getD Nd.zero).id
def grpS (l:List Nd) (h:Int) (v:Nat):List Nd:=groupN (sortN l) h v
theorem grp_eq {l:List Nd} {h:Int} {u v:Nat} (hw:∀ x∈l,x.word<4294967296) (hu:u<4294967296) (hv:v<4294967296) (hs:sameN u v h=true):grpS l h u=grpS l h v:=by
 unfold grpS groupN
 apply List.filter_congr
 intro y hy
 have hy:=hw y ((sortN_mem l y).1 hy)
 rw [Bool.eq_iff_iff]
 exact ⟨fun h=>sameN_trans hy hu hv h hs,fun h=>sameN_trans hy hv hu h (sameN_symm hs)⟩
theorem grp_mem {l:List Nd} {h:Int} {v:Nat} {y:Nd}:y∈grpS l h v↔y∈l∧sameN y.word v h=true:=by
 unfold grpS groupN
 rw [List.mem_filter,sortN_mem]
theorem neigh_split {l:List Nd} (h0:checkN l=0) {x:Nd} (hx:x∈l) {h:Int} (hl:lvlN h=true) {A B:List Nd} (e:grpS l h x.word=A++x::B):neighN l x.id h=((lastI A,headI B),true):=by
 have hf:=find_in h0 hx
 obtain ⟨i,hi,_,hn⟩:=neighN_yes (l:=l) (id:=x.id) (h:=h) h0 (by rw [hf]) hl
 have hG:thrG l x.id h=A++x::B:=by unfold thrG;rw [hf];exact e
 have hA:AscS (thrG l x.id h):=asc_group (sortN_str h0) h _
 rw [hf] at hi
 rw [hG] at hi hn hA
 have h1:=idxI_at hA hi
 have h2:=idxI_at hA (i:=A.length) (x:=x) (by simp)
 have hi:i=A.length:=by simp only at h1;omega
 subst hi
 rw [hn]
 congr 2
 ·unfold leftN lastI
  by_cases ha:A.length=0
  ·rw [if_pos ha,List.length_eq_zero_iff.1 ha];rfl
  ·rw [if_neg ha,List.getElem?_append_left (by omega),List.getLast?_eq_getElem?]
 ·unfold rightN headI
  rw [List.getElem?_append_right (by omega),show A.length+1-A.length=1 by omega,List.getElem?_cons_succ,List.head?_eq_getElem?]
theorem grp_asc {l:List Nd} (h0:checkN l=0) (h:Int) (v:Nat):AscS (grpS l h v):=asc_group (sortN_str h0) h v
theorem find_zero {l:List Nd} (h0:checkN l=0):findN l 0=(Nd.zero,false) :=
 findN_none fun j z _ hz=>by have:=check_id h0 (List.mem_of_getElem? hz);omega
def nums4 (x:Nr):List Int:=[x.1,x.2.1,x.2.2.1,x.2.2.2]
def numsP (p:Pr):List Int:=p.known++[p.left,p.right]++p.near.flatMap nums4
def ordN (N:List Nd) (l:List Int) (but:Int):List Int:=((sortN N).filter fun x=>!(x.id==but)&&l.contains x.id).map Nd.id
def refsN (N:List Nd) (p:Pr):List Int:=if checkN N=0 then ordN N (numsP p) p.id else []
def peerN (P:List Pr) (id:Int):Pr:=(P.find? fun p=>p.id==id).getD ⟨id,0,0,[],[]⟩
def normalN (N:List Nd) (P:List Pr):List Pr:=if checkN N=0 then (sortN N).map fun x=>peerN P x.id else []
def arN (N:List Nd) (p:Pr):List Int:=if (findN N p.id).2=true∧checkN N=0 then ordN N (refsN N p++[p.id]) 0 else []
def pr2 (id:Int) (q:Int×Int):List (Int×Int):=(if q.1=id then [] else [(q.1,q.2)])++(if q.2=id then [] else [(q.2,q.1)])
def prsN (id:Int) (l:List Int):List (Int×Int):=(l.zip l.tail).flatMap (pr2 id)
def introsN (N:List Nd) (p:Pr):List (Int×Int):=prsN p.id (arN N p)
def besN (id:Int) (l:List Int):Int×Int:=match l.findIdx? (·==id) with
 | none=>(0,0)
 | some i=>((if i=0 then 0 else l[i-1]?.getD 0),l[i+1]?.getD 0)
def keepN (N:List Nd) (p:Pr):Int×Int:=besN p.id (arN N p)
section
variable {N:List Nd} {P:List Pr}
theorem mem_ord {l:List Int} {but id:Int}:id∈ordN N l but↔(∃ x∈N,x.id=id)∧id≠but∧id∈l:=by
 unfold ordN
 simp only [List.mem_map,List.mem_filter,sortN_mem,Bool.and_eq_true,Bool.not_eq_true',beq_eq_false_iff_ne,List.contains_iff_mem]
 constructor
 ·rintro ⟨x,⟨h1,h2,h3⟩,rfl⟩;exact ⟨⟨x,h1,rfl⟩,h2,h3⟩
 ·rintro ⟨⟨x,h1,rfl⟩,h2,h3⟩;exact ⟨x,⟨h1,h2,h3⟩,rfl⟩
theorem mem_refs (h0:checkN N=0) {p:Pr} {id:Int}:id∈refsN N p↔(∃ x∈N,x.id=id)∧id≠p.id∧id∈numsP p:=by
 unfold refsN
 rw [if_pos h0,mem_ord]
theorem peer_id (P:List Pr) (id:Int):(peerN P id).id=id:=by
 unfold peerN
 cases h:P.find? fun p=>p.id==id with
 | none=>rfl
 | some p=>simpa using List.find?_some h
theorem ar_eq (h0:checkN N=0) {p:Pr} {x:Nd} (hx:x∈N) (hid:x.id=p.id):arN N p=((sortN N).filter fun y=>y.id==p.id||(numsP p).contains y.id).map Nd.id:=by
 unfold arN
 rw [if_pos ⟨by rw [← hid,find_in h0 hx],h0⟩]
 unfold ordN
 congr 1
 refine List.filter_congr fun y hy=>?_
 have hy:=(sortN_mem N y).1 hy
 have h1:=check_id h0 hy
 rw [Bool.eq_iff_iff]
 simp only [Bool.and_eq_true,Bool.not_eq_true',beq_eq_false_iff_ne,List.contains_iff_mem,List.mem_append,List.mem_singleton,Bool.or_eq_true,beq_iff_eq,mem_refs h0]
 constructor
 ·rintro ⟨_,⟨_,_,h⟩ | h⟩
  ·exact .inr h
  ·exact .inl h
 ·rintro (h | h)
  ·exact ⟨by omega,.inr h⟩
  ·by_cases he:y.id=p.id
   ·exact ⟨by omega,.inr he⟩
   ·exact ⟨by omega,.inl ⟨⟨y,hy,rfl⟩,he,h⟩⟩
end
section
variable {N:List Nd} {P:List Pr}
theorem sort_ids {N:List Nd} (h0:checkN N=0):(sortN N).Pairwise fun x y=>x.id≠y.id:=List.Pairwise.imp (fun h=>h.2) (sortN_str h0)
theorem peer_map {S:List Nd} (hd:S.Pairwise fun x y=>x.id≠y.id) {f:Nd→Pr} (hf:∀ x,(f x).id=x.id) {a:Nd} (ha:a∈S):peerN (S.map f) a.id=f a:=by
 unfold peerN
 have:(S.map f).find? (fun p=>p.id==a.id)=some (f a):=by
  rw [List.find?_map]
  have e:((fun p:Pr=>p.id==a.id) ∘ f)=fun x:Nd=>x.id==a.id:=by funext x;simp [hf]
  rw [e]
  have hfd:S.find? (fun x=>x.id==a.id)=some a:=by
   obtain ⟨A,B,rfl⟩:=List.append_of_mem ha
   rw [List.find?_append]
   have hn:A.find? (fun x=>x.id==a.id)=none:=by
    rw [List.find?_eq_none]
    intro x hx
    have:=(List.pairwise_append.1 hd).2.2 x hx a (by simp)
    simpa using this
   rw [hn]
   simp
  rw [hfd];rfl
 rw [this];rfl
def KR (N:List Nd) (P:List Pr) (x y:Nat):Prop:=∃ a b,(sortN N)[x]?=some a∧(sortN N)[y]?=some b∧b.id∈refsN N (peerN P a.id)
theorem KR.lt {x y:Nat} (h:KR N P x y):x<N.length∧y<N.length:=by
 obtain ⟨a,b,h1,h2,_⟩:=h
 have g1:=(List.getElem?_eq_some_iff.1 h1).1
 have g2:=(List.getElem?_eq_some_iff.1 h2).1
 rw [sortN_length] at g1 g2
 exact ⟨g1,g2⟩
inductive Cl (R:Int→Int→Prop):Int→Int→Prop
 | refl (a:Int):Cl R a a
 | step {a c b:Int}:R a c∨R c a→Cl R c b→Cl R a b
theorem Cl.trans {R:Int→Int→Prop} {a b c:Int} (h:Cl R a b) (k:Cl R b c):Cl R a c:=by
 induction h with
 | refl _=>exact k
 | step h1 _ ih=>exact .step h1 (ih k)
theorem Cl.one {R:Int→Int→Prop} {a b:Int} (h:R a b∨R b a):Cl R a b:=.step h (.refl b)
theorem Cl.symm {R:Int→Int→Prop} {a b:Int} (h:Cl R a b):Cl R b a:=by
 induction h with
 | refl _=>exact .refl _
 | step h1 _ ih=>exact ih.trans (.one h1.symm)
theorem Cl.mono {R R':Int→Int→Prop} (hr:∀ a b,R a b→Cl R' a b) {a b:Int} (h:Cl R a b):Cl R' a b:=by
 induction h with
 | refl _=>exact .refl _
 | step h1 _ ih =>
  rcases h1 with h | h
  ·exact (hr _ _ h).trans ih
  ·exact (hr _ _ h).symm.trans ih
def EdgeN (N:List Nd) (P:List Pr) (u v:Int):Prop:=(∃ x∈N,x.id=u)∧v∈refsN N (peerN P u)
def ConnN (N:List Nd) (P:List Pr):Prop:=checkN N=0∧∀ x∈N,∀ y∈N,Cl (EdgeN N P) x.id y.id
theorem edge_node (h0:checkN N=0) {u v:Int} (h:EdgeN N P u v):(∃ x∈N,x.id=u)∧∃ y∈N,y.id=v:=⟨h.1,((mem_refs h0).1 h.2).1⟩
end
section
variable {N:List Nd}
theorem ar_nodup (h0:checkN N=0) {p:Pr}:(arN N p).Nodup:=by
 have hs:=sort_ids h0
 unfold arN
 split
 ·unfold ordN
  exact List.Pairwise.map _ (fun a b h=>h) (hs.filter _)
 ·exact List.Pairwise.nil
variable {P:List Pr}
end
def otherN (N:List Nd) (id own:Int):Int:=if (findN N id).2=true∧id≠own then id else 0
def zNr:Nr:=(0,0,0,0)
def nearAt (p:Pr) (i:Nat):Nr:=p.near[i]?.getD zNr
def linkB (N:List Nd) (p:Pr) (lev:Int):Int×Int :=
 if (findN N p.id).2=true∧checkN N=0∧lvlN lev=true∧lev≤p.near.length then
  (let y:=if lev=0 then (p.left,p.right) else if bitN (findN N p.id).1.word (lev-1)=1 then ((nearAt p (lev-1).toNat).2.1,(nearAt p (lev-1).toNat).2.2.2) else ((nearAt p (lev-1).toNat).1,(nearAt p (lev-1).toNat).2.2.1)
   (otherN N y.1 p.id,otherN N y.2 p.id))
 else (0,0)
def pairB (N:List Nd) (own nb:Int) (lev:Nat) (zero one:Int):Int×Int :=
 if (findN N nb).2=true then (if bitN (findN N nb).1.word lev=0 then ((findN N nb).1.id,otherN N one own) else (otherN N zero own,(findN N nb).1.id)) else (0,0)
def stepB (N:List Nd) (st:Int→Pr) (p:Pr) (i:Nat):Nr :=
 ((pairB N p.id (linkB N p i).1 i (nearAt (st (linkB N p i).1) i).1 (nearAt (st (linkB N p i).1) i).2.1).1,(pairB N p.id (linkB N p i).1 i (nearAt (st (linkB N p i).1) i).1 (nearAt (st (linkB N p i).1) i).2.1).2,
  (pairB N p.id (linkB N p i).2 i (nearAt (st (linkB N p i).2) i).2.2.1 (nearAt (st (linkB N p i).2) i).2.2.2).1,(pairB N p.id (linkB N p i).2 i (nearAt (st (linkB N p i).2) i).2.2.1 (nearAt (st (linkB N p i).2) i).2.2.2).2)
def nextB (N:List Nd) (st:Int→Pr) (p:Pr) (h:Nat):List Nr:=(List.range h).map (stepB N st p)
section
variable {N:List Nd}
end
def gtP (N:List Nd) (own:Nd) (id:Int):Bool:=!(Op.bytesLess (findN N id).1.key.toList own.key.toList||((findN N id).1.key.toList==own.key.toList))
def insAt (l:List Int) (i:Nat) (v:Int):List Int:=l.take i++v::l.drop i
theorem findIdx_two {p:Int→Bool} {A B:List Int} (hA:∀ u∈A,p u=false) (hB:∀ u∈B,p u=true):(A++B).findIdx p=A.length:=by
 have h1:A.findIdx p=A.length:=List.findIdx_eq_length.2 (by simpa using hA)
 rw [List.findIdx_append,if_neg (by omega)]
 cases B with
 | nil=>simp
 | cons b B=>simp [List.findIdx_cons,hB b (by simp)]
section
variable {N:List Nd}
theorem row_law (h0:checkN N=0) {x:Nd} (hx:x∈N) {p:Pr} (hid:x.id=p.id):insAt (refsN N p) ((refsN N p).findIdx (gtP N x)) p.id=arN N p:=by
 obtain ⟨A,B,e⟩:=List.append_of_mem ((sortN_mem N x).2 hx)
 have hs:=sortN_str h0
 unfold AscS at hs
 rw [e] at hs
 have hA:∀ y∈A,Op.bytesLess y.key.toList x.key.toList=true∧y.id≠x.id:=fun y hy=>(List.pairwise_append.1 hs).2.2 y hy x (by simp)
 have hB:∀ y∈B,Op.bytesLess x.key.toList y.key.toList=true∧x.id≠y.id:=fun y hy=>(List.pairwise_cons.1 (List.pairwise_append.1 hs).2.1).1 y hy
 have mA:∀ y∈A,y∈N:=fun y hy=>(sortN_mem N y).1 (by rw [e];simp [hy])
 have mB:∀ y∈B,y∈N:=fun y hy=>(sortN_mem N y).1 (by rw [e];simp [hy])
 have hr:refsN N p=(A.filter fun y=>(numsP p).contains y.id).map Nd.id++(B.filter fun y=>(numsP p).contains y.id).map Nd.id:=by
  have fA:(A.filter fun y=>!(y.id==p.id)&&(numsP p).contains y.id)=A.filter fun y=>(numsP p).contains y.id:=List.filter_congr fun y hy=>by
   have h1:=(hA y hy).2
   rw [hid] at h1
   simp [h1]
  have fB:(B.filter fun y=>!(y.id==p.id)&&(numsP p).contains y.id)=B.filter fun y=>(numsP p).contains y.id:=List.filter_congr fun y hy=>by
   have h1:=(hB y hy).2
   rw [hid] at h1
   simp [Ne.symm h1]
  unfold refsN
  rw [if_pos h0]
  unfold ordN
  rw [e,List.filter_append,List.filter_cons_of_neg (by simp [hid]),fA,fB,List.map_append]
 have ha:arN N p=(A.filter fun y=>(numsP p).contains y.id).map Nd.id++p.id::(B.filter fun y=>(numsP p).contains y.id).map Nd.id:=by
  have fA:(A.filter fun y=>y.id==p.id||(numsP p).contains y.id)=A.filter fun y=>(numsP p).contains y.id:=List.filter_congr fun y hy=>by
   have h1:=(hA y hy).2
   rw [hid] at h1
   simp [h1]
  have fB:(B.filter fun y=>y.id==p.id||(numsP p).contains y.id)=B.filter fun y=>(numsP p).contains y.id:=List.filter_congr fun y hy=>by
   have h1:=(hB y hy).2
   rw [hid] at h1
   simp [Ne.symm h1]
  rw [ar_eq h0 hx hid,e,List.filter_append,List.filter_cons_of_pos (by simp [hid]),fA,fB,List.map_append,List.map_cons,hid]
 have hi:(refsN N p).findIdx (gtP N x)=((A.filter fun y=>(numsP p).contains y.id).map Nd.id).length:=by
  rw [hr]
  refine findIdx_two (fun u hu=>?_) (fun u hu=>?_)
  ·obtain ⟨y,hy,rfl⟩:=List.mem_map.1 hu
   have hy:=(List.mem_filter.1 hy).1
   unfold gtP
   rw [find_in h0 (mA y hy),(hA y hy).1]
   rfl
  ·obtain ⟨y,hy,rfl⟩:=List.mem_map.1 hu
   have hy:=(List.mem_filter.1 hy).1
   have h1:=(hB y hy).1
   have h2:=bl_asymm h1
   have h3:(y.key.toList==x.key.toList)=false:=by
    rw [beq_eq_false_iff_ne]
    intro he
    rw [he,bytesLess_irrefl] at h1
    cases h1
   unfold gtP
   rw [find_in h0 (mB y hy),h2,h3]
   rfl
 rw [hi,ha,hr]
 unfold insAt
 rw [List.take_left,List.drop_left]
theorem ord_len (l:List Int) (but:Int):(ordN N l but).length≤N.length:=by
 unfold ordN
 rw [List.length_map]
 exact Nat.le_trans (List.length_filter_le _ _) (Nat.le_of_eq (sortN_length N))
theorem ar_len (p:Pr):(arN N p).length≤N.length:=by
 unfold arN
 split
 ·exact ord_len _ _
 ·exact Nat.zero_le _
theorem ar_nodup' (p:Pr):(arN N p).Nodup:=by
 by_cases h0:checkN N=0
 ·exact ar_nodup h0
 ·unfold arN
  rw [if_neg (fun h=>h0 h.2)]
  exact List.Pairwise.nil
end
theorem zip_at {l:List Int} {j:Nat} {a b:Int} (ha:l[j]?=some a) (hb:l[j+1]?=some b):(l.zip l.tail)[j]?=some (a,b):=by
 rw [List.getElem?_zip_eq_some]
 exact ⟨ha,by rw [List.getElem?_tail];exact hb⟩
theorem prs_snoc {id:Int} {l:List Int} {j:Nat} {a b:Int} (ha:l[j]?=some a) (hb:l[j+1]?=some b) :
  ((l.zip l.tail).take (j+1)).flatMap (pr2 id)=((l.zip l.tail).take j).flatMap (pr2 id)++pr2 id (a,b):=by
 rw [List.take_add_one,zip_at ha hb,List.flatMap_append]
 simp
theorem prs_all {id:Int} {l:List Int} {j:Nat} (hj:l.length≤j+1):((l.zip l.tail).take j).flatMap (pr2 id)=prsN id l:=by
 unfold prsN
 rw [List.take_of_length_le (by rw [List.length_zip,List.length_tail];omega)]
theorem pr2_len (id:Int) (q:Int×Int):(pr2 id q).length≤2:=by
 unfold pr2
 rw [List.length_append]
 split<;>split<;>simp
theorem prs_take_len (id:Int) (L:List (Int×Int)):(L.flatMap (pr2 id)).length≤2*L.length:=by
 induction L with
 | nil=>simp
 | cons a L ih =>
  rw [List.flatMap_cons,List.length_append,List.length_cons]
  have:=pr2_len id a
  omega
theorem prs_len (id:Int) (l:List Int):(prsN id l).length≤2*l.length:=by
 unfold prsN
 have:=prs_take_len id (l.zip l.tail)
 rw [List.length_zip,List.length_tail] at this
 omega
theorem intros_len (N:List Nd) (p:Pr):(introsN N p).length≤2*N.length:=by
 have h1:=prs_len p.id (arN N p)
 have h2:=ar_len (N:=N) p
 unfold introsN
 omega
theorem bes_nodup {id:Int} {l:List Int} (hd:l.Nodup) {i:Nat} (hi:l[i]?=some id):besN id l=((if i=0 then 0 else l[i-1]?.getD 0),l[i+1]?.getD 0):=by
 have hf:l.findIdx? (·==id)=some i:=by
  rw [List.findIdx?_eq_some_iff_getElem]
  obtain ⟨h1,h2⟩:=List.getElem?_eq_some_iff.1 hi
  refine ⟨h1,by simp [h2],fun j hj=>?_⟩
  have:=(List.pairwise_iff_getElem.1 hd) j i (by omega) h1 hj
  rw [h2] at this
  simpa using this
 unfold besN
 rw [hf]
theorem bes_none {id:Int} {l:List Int} (h:id∉l):besN id l=(0,0):=by
 have hf:l.findIdx? (·==id)=none:=by
  rw [List.findIdx?_eq_none_iff]
  intro x hx
  simp only [beq_eq_false_iff_ne]
  intro he
  exact h (he▸hx)
 unfold besN
 rw [hf]
abbrev OwnPr (base:Nat) (w:World) (v:Value) (qs:List PQ) (P:List Pr):Prop:=OwnP 36 3 69 base w v qs P
def PlPost (P:List Pr) (w:World) (e:Ending) (w':World):Prop:=∃ v qs,e=.returned v∧OwnPr w.heap.size w' v qs P∧Ex w w'
theorem OwnP.app {eP eI eN:TypeId} (hI:eP≠eI) (hN:eP≠eN) {base:Nat} {w0 w1 w2:World} {v v':Value} {qs:List PQ} {P:List Pr} {p:Pr} {hk hn:Hdr} (h:OwnP eP eI eN base w0 v qs P) (hb:base≤w0.heap.size) (kk:Ex w0 w1)
  (ik:OwnL 1 encI eI w0.heap.size w1 hk.val p.known) (inr:OwnL 4 encNr eN w0.heap.size w1 hn.val p.near)
  (ho:OwnW 5 encQ eP base w2 v' (qs++[(p.nums,hk,hn)])) (k:Chg (fun k=>k<w1.heap.size∧¬ v.ownBlock=some k) w1 w2):OwnP eP eI eN base w2 v' (qs++[(p.nums,hk,hn)]) (P++[p]):=by
 refine (h.nx kk).push hI hN ho k (ik.base hb) (inr.base hb) (fun j r g hr hg hv=>?_) (fun j r g hr hg hv=>?_)
 ·obtain ⟨q,_,_,r2,_⟩:=h.getp hr
  have h1:=(r2.lt g hg).2
  have h2:=(ik.lt g hv).1
  omega
 ·obtain ⟨q,_,_,_,r3⟩:=h.getp hr
  have h1:=(r3.lt g hg).2
  have h2:=(inr.lt g hv).1
  omega
theorem PL.rd {w:World} {a:Option Addr} {n:Nat} {P:List Pr} (h:PL w a n P) {j:Nat} (hj:j<n) :
  ∃ (x o:Nat) (a1:Option Addr) (n1 c1:Nat) (a2:Option Addr) (n2 c2:Nat) (p:Pr),a=some ⟨x,o,none⟩∧x<w.heap.size∧P[j]?=some p∧w.cell? ⟨x,o+j*5,none⟩=some (.int .i64 p.id)∧w.cell? ⟨x,o+j*5+1,none⟩=some (.slice a1 n1 c1) ∧
   w.cell? ⟨x,o+j*5+1+1,none⟩=some (.int .i64 p.left)∧w.cell? ⟨x,o+j*5+1+1+1,none⟩=some (.int .i64 p.right)∧w.cell? ⟨x,o+j*5+1+1+1+1,none⟩=some (.slice a2 n2 c2)∧Sl 1 encI w a1 n1 p.known∧Sl 4 encNr w a2 n2 p.near:=by
 obtain ⟨x,o,a1,n1,c1,a2,n2,c2,p,e1,e2,e3,e4,e5,e6⟩:=h.at hj
 exact ⟨x,o,a1,n1,c1,a2,n2,c2,p,e1,e2,e3,e4 0 _ rfl,e4 1 _ rfl,e4 2 _ rfl,e4 3 _ rfl,e4 4 _ rfl,e5,e6⟩
def SmallP (P:List Pr):Prop:=∀ p∈P,p.known.length≤17592186044416∧p.near.length≤4398046511104
theorem OwnP.row {eP eI eN:TypeId} {base:Nat} {w:World} {v:Value} {qs:List PQ} {P:List Pr} (h:OwnP eP eI eN base w v qs P):OwnW 5 encQ eP base w v qs:=h.1
theorem encQ_one (q:PQ):∀ u∈encQ q,u.oneCell'=true:=by
 intro u hu
 simp only [encQ,List.mem_cons,List.not_mem_nil,or_false] at hu
 rcases hu with rfl | rfl | rfl | rfl | rfl<;>rfl
def KtRel (n:Nat) (w:World) (i:Value) (wr:World):Prop:=∃ k:Nat,k≤n∧i=.int .i64 k∧Ex w wr
end Go.Proofs.YtalmjklljofhbaaGreatDoor
