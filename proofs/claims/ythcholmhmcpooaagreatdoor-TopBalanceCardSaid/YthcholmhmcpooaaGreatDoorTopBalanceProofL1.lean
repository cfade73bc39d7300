/- Texts for TopBalanceProof. -/
import Derived.Sort.LotA
set_option linter.unusedSimpArgs false
set_option linter.unusedVariables false

namespace Go.Proofs.YthcholmhmcpooaaGreatDoor
open Go.Sort
section
variable {α:Type} [Inhabited α] {lt:α→α→Bool}
theorem getE {x:Array α} {a b:Nat} (h:a=b):x[a]! = x[b]!:=by rw [h]
def Rot (x:Array α) (s m e:Nat) (r:Array α):Prop :=
 ∀ k:Nat,r[k]! = if s≤k∧k<s+(e-m) then x[k+(m-s)]! else if s+(e-m)≤k∧k<e then x[k-(e-m)]! else x[k]!
def SwR (x:Array α) (p q n:Nat) (y:Array α):Prop :=
 ∀ k:Nat,y[k]! = if p≤k∧k<p+n then x[k+(q-p)]! else if q≤k∧k<q+n then x[k-(q-p)]! else x[k]!
theorem swR_zero (x:Array α) (p q:Nat):SwR x p q 0 x:=by
 intro k
 rw [if_neg (by omega),if_neg (by omega)]
theorem swR_step {x y:Array α} {p q n:Nat} (h:SwR x p q n y) (hpq:p+n<q) (hq:q+n<y.size):SwR x p q (n+1) (swp y (p+n) (q+n)):=by
 intro k
 rw [swp_get y (show p+n<y.size by omega) hq,h (p+n),h (q+n),h k]
 repeat' split
 all_goals first | (exfalso;omega) | exact getE (by omega)
theorem rot_big {x y r:Array α} {m i j:Nat} (hij:j<i) (him:i≤m) (h1:SwR x (m-i) m j y) (h2:Rot y (m-(i-j)) m (m+j) r):Rot x (m-i) m (m+j) r:=by
 intro k
 rw [h2 k,h1 k,h1 (k+(m-(m-(i-j)))),h1 (k-(m+j-m))]
 repeat' split
 all_goals first | (exfalso;omega) | exact getE (by omega)
theorem rot_small {x y r:Array α} {m i j:Nat} (hij:i<j) (him:i≤m) (h1:SwR x (m-i) (m+j-i) i y) (h2:Rot y (m-i) m (m+(j-i)) r):Rot x (m-i) m (m+j) r:=by
 intro k
 rw [h2 k,h1 k,h1 (k+(m-(m-i))),h1 (k-(m+(j-i)-m))]
 repeat' split
 all_goals first | (exfalso;omega) | exact getE (by omega)
theorem rot_eq {x r:Array α} {m i:Nat} (him:i≤m) (h1:SwR x (m-i) m i r):Rot x (m-i) m (m+i) r:=by
 intro k
 rw [h1 k]
 repeat' split
 all_goals first | (exfalso;omega) | exact getE (by omega)
theorem rot_refl_r (x:Array α) (s m:Nat) (h:s≤m):Rot x s m m x:=by
 intro k
 repeat' split
 all_goals first | (exfalso;omega) | exact getE (by omega)
theorem rot_refl_l (x:Array α) (m e:Nat) (h:m≤e):Rot x m m e x:=by
 intro k
 repeat' split
 all_goals first | (exfalso;omega) | exact getE (by omega)
theorem rot_up {x y:Array α} {a k:Nat} (h:Rot x a (a+1) (k+1) y) (hak:a≤k) (hk:k+1<y.size):Rot x a (a+1) (k+2) (swp y k (k+1)):=by
 intro i
 rw [swp_get y (show k<y.size by omega) hk,h k,h (k+1),h i]
 repeat' split
 all_goals first | (exfalso;omega) | exact getE (by omega)
theorem rot_down {x y:Array α} {m k:Nat} (h:Rot x (k+1) m (m+1) y) (hk:k+1≤m) (hm:m<y.size):Rot x k m (m+1) (swp y (k+1) k):=by
 intro i
 rw [swp_get y (show k+1<y.size by omega) (show k<y.size by omega),h k,h (k+1),h i]
 repeat' split
 all_goals first | (exfalso;omega) | exact getE (by omega)
def Cross (lt:α→α→Bool) (a M b:Nat) (x:Array α):Prop:=∀ i j,a≤i→i<M→M≤j→j<b→lt x[j]! x[i]! = false
theorem sorted_join {a M b:Nat} {x:Array α} (h1:SortedIn lt a M x) (h2:SortedIn lt M b x) (h:Cross lt a M b x):SortedIn lt a b x:=by
 intro i j hi hij hj
 by_cases h3:j<M
 ·exact h1 i j hi hij h3
 ·by_cases h4:i<M
  ·exact h i j hi h4 (by omega) hj
  ·exact h2 i j (by omega) hij hj
theorem sorted_one {a b:Nat} (x:Array α) (h:b≤a+1):SortedIn lt a b x:=fun i j hi hij hj=>by omega
theorem cross_left {a M b:Nat} {x y:Array α} (h:Cross lt a M b x) (hp:PermIn a M x y) (hb:M≤x.size):Cross lt a M b y:=by
 intro i j hi hiM hM hj
 rw [hp.2.1 j (Or.inr hM)]
 exact permIn_all x y a M (fun v=>lt x[j]! v=false) hb hp (fun i hi hiM=>h i j hi hiM hM hj) i hi hiM
theorem cross_right {a M b:Nat} {x y:Array α} (h:Cross lt a M b x) (hp:PermIn M b x y) (hb:b≤x.size):Cross lt a M b y:=by
 intro i j hi hiM hM hj
 rw [hp.2.1 i (Or.inl hiM)]
 exact permIn_all x y M b (fun v=>lt v x[i]! = false) hb hp (fun j hM hj=>h i j hi hiM hM hj) j hM hj
theorem sorted_other {a b p q:Nat} {x y:Array α} (h:SortedIn lt a b x) (hp:PermIn p q x y) (hd:b≤p∨q≤a):SortedIn lt a b y:=by
 intro i j hi hij hj
 rw [hp.2.1 i (by omega),hp.2.1 j (by omega)]
 exact h i j hi hij hj
theorem rot_parts {x r:Array α} {a s m e b:Nat} (h1:a≤s) (h2:s≤m) (h3:m≤e) (h4:e≤b) (hl:SortedIn lt a m x) (hr:SortedIn lt m b x) (h:Rot x s m e r) :
  SortedIn lt a s r∧SortedIn lt s (s+(e-m)) r∧SortedIn lt (s+(e-m)) e r∧SortedIn lt e b r:=by
 refine ⟨fun i j hi hij hj=>?_,fun i j hi hij hj=>?_,fun i j hi hij hj=>?_,fun i j hi hij hj=>?_⟩
 ·rw [h i,h j,if_neg (by omega),if_neg (by omega),if_neg (by omega),if_neg (by omega)]
  exact hl i j hi hij (by omega)
 ·rw [h i,h j,if_pos (by omega),if_pos (by omega)]
  exact hr _ _ (by omega) (by omega) (by omega)
 ·rw [h i,h j,if_neg (by omega),if_pos (by omega),if_neg (by omega),if_pos (by omega)]
  exact hl _ _ (by omega) (by omega) (by omega)
 ·rw [h i,h j,if_neg (by omega),if_neg (by omega),if_neg (by omega),if_neg (by omega)]
  exact hr i j (by omega) hij (by omega)
theorem rot_cross {x r:Array α} {a s m e b:Nat} (h1:a≤s) (h2:s≤m) (h3:m≤e) (h4:e≤b) (hl:SortedIn lt a m x) (hr:SortedIn lt m b x)
  (c1:∀ p q,a≤p→p<s→e≤q→q<b→lt x[q]! x[p]! = false) (c2:∀ p q,s≤p→p<m→m≤q→q<e→lt x[p]! x[q]! = false) (h:Rot x s m e r):Cross lt a (s+(e-m)) b r:=by
 intro i j hi hiM hM hj
 rw [h i,h j]
 rw [if_neg (show ¬ (s≤j∧j<s+(e-m)) by omega)]
 by_cases his:s≤i
 ·rw [if_pos (show s≤i∧i<s+(e-m) by omega)]
  by_cases hje:j<e
  ·rw [if_pos (by omega)]
   exact c2 _ _ (by omega) (by omega) (by omega) (by omega)
  ·rw [if_neg (by omega)]
   exact hr _ _ (by omega) (by omega) (by omega)
 ·rw [if_neg (show ¬ (s≤i∧i<s+(e-m)) by omega),if_neg (show ¬ (s+(e-m)≤i∧i<e) by omega)]
  by_cases hje:j<e
  ·rw [if_pos (by omega)]
   exact hl _ _ (by omega) (by omega) (by omega)
  ·rw [if_neg (by omega)]
   exact c1 _ _ (by omega) (by omega) (by omega) (by omega)
theorem le_of_sorted (hS:SWO lt) {a b:Nat} {x:Array α} (h:SortedIn lt a b x) {i j:Nat} (hi:a≤i) (hij:i≤j) (hj:j<b):lt x[j]! x[i]! = false:=by
 rcases Nat.lt_or_ge i j with h1 | h1
 ·exact h i j hi h1 hj
 ·obtain rfl:i=j:=by omega
  exact hS.irrefl _
theorem one_left (hS:SWO lt) {x r:Array α} {a i b:Nat} (hai:a+1≤i) (hib:i≤b) (hr:SortedIn lt (a+1) b x) (hi:i=a+1∨lt x[i-1]! x[a]! = true) (hj:i=b∨lt x[i]! x[a]! = false) (h:Rot x a (a+1) i r):SortedIn lt a b r:=by
 obtain ⟨_,p2,_,p4⟩:=rot_parts (a:=a) (Nat.le_refl _) (by omega) hai hib (sorted_one x (Nat.le_refl _)) hr h
 have hc:Cross lt a (a+(i-(a+1))) b r:=rot_cross (Nat.le_refl _) (by omega) hai hib (sorted_one x (Nat.le_refl _)) hr (by intro p q h1 h2;omega) (fun p q h1 h2 h3 h4=>by
  obtain rfl:p=a:=by omega
  rcases hi with hi | hi
  ·omega
  ·exact hS.ntrans _ _ _ (hS.asymmA hi) (le_of_sorted hS hr h3 (by omega) (by omega))) h
 refine sorted_join p2 (sorted_join (M:=i) (sorted_one r (by omega)) p4 ?_) hc
 intro p q h1 h2 h3 h4
 rw [h p,h q,if_neg (by omega),if_neg (by omega),if_neg (by omega),if_pos (by omega),show p-(i-(a+1))=a by omega]
 rcases hj with hj | hj
 ·omega
 ·exact hS.ntrans _ _ _ (le_of_sorted hS hr (by omega) h3 h4) hj
theorem one_right (hS:SWO lt) {x r:Array α} {a i m:Nat} (hai:a≤i) (him:i≤m) (hl:SortedIn lt a m x) (hi:i=a∨lt x[m]! x[i-1]! = false) (hj:i=m∨lt x[m]! x[i]! = true) (h:Rot x i m (m+1) r):SortedIn lt a (m+1) r:=by
 obtain ⟨p1,p2,p3,_⟩:=rot_parts (b:=m+1) hai him (by omega) (Nat.le_refl _) hl (sorted_one x (by omega)) h
 have hc:Cross lt a (i+(m+1-m)) (m+1) r:=rot_cross hai him (by omega) (Nat.le_refl _) hl (sorted_one x (by omega)) (by intro p q h1 h2;omega) (fun p q h1 h2 h3 h4=>by
  obtain rfl:q=m:=by omega
  rcases hj with hj | hj
  ·omega
  ·exact hS.ntrans _ _ _ (le_of_sorted hS hl hai h1 h2) (hS.asymmA hj)) h
 refine sorted_join (sorted_join p1 p2 ?_) p3 hc
 intro p q h1 h2 h3 h4
 rw [h p,h q,if_pos (by omega),if_neg (by omega),if_neg (by omega),show q+(m-i)=m by omega]
 rcases hi with hi | hi
 ·omega
 ·exact hS.ntrans _ _ _ hi (le_of_sorted hS hl h1 (by omega) (by omega))
theorem sym_cross (hS:SWO lt) {x r:Array α} {a m b s s0 r0:Nat} (ham:a<m) (hmb:m<b) (hl:SortedIn lt a m x) (hr:SortedIn lt m b x)
  (h0:(m>(a+b) / 2∧s0=(a+b) / 2+m-b∧r0=(a+b) / 2)∨(m≤(a+b) / 2∧s0=a∧r0=m)) (hs0:s0≤s) (hsr:s≤r0)
  (hP:s=s0∨lt x[(a+b) / 2+m-1-(s-1)]! x[s-1]! = false) (hQ:s=r0∨lt x[(a+b) / 2+m-1-s]! x[s]! = true) (h:Rot x s m ((a+b) / 2+m-s) r) :
  Cross lt a ((a+b) / 2) b r∧SortedIn lt a s r∧SortedIn lt s ((a+b) / 2) r∧SortedIn lt ((a+b) / 2) ((a+b) / 2+m-s) r∧SortedIn lt ((a+b) / 2+m-s) b r:=by
 have e1:s+((a+b) / 2+m-s-m)=(a+b) / 2:=by omega
 have h1:a≤s:=by omega
 have h2:s≤m:=by omega
 have h3:m≤(a+b) / 2+m-s:=by omega
 have h4:(a+b) / 2+m-s≤b:=by omega
 have hp:=rot_parts h1 h2 h3 h4 hl hr h
 have hc:=rot_cross h1 h2 h3 h4 hl hr (fun p q k1 k2 k3 k4=>by
  rcases hP with hP | hP
  ·omega
  ·rw [show (a+b) / 2+m-1-(s-1)=(a+b) / 2+m-s by omega] at hP
   exact hS.ntrans _ _ _ (hS.ntrans _ _ _ (le_of_sorted hS hr h3 k3 k4) hP) (le_of_sorted hS hl k1 (by omega) (by omega)))
  (fun p q k1 k2 k3 k4=>by
  rcases hQ with hQ | hQ
  ·omega
  ·rw [show (a+b) / 2+m-1-s=(a+b) / 2+m-s-1 by omega] at hQ
   exact hS.ntrans _ _ _ (hS.ntrans _ _ _ (le_of_sorted hS hl h1 k1 k2) (hS.asymmA hQ)) (le_of_sorted hS hr k3 (by omega) (by omega))) h
 rw [e1] at hp hc
 exact ⟨hc,hp⟩
theorem halves_done {r y z:Array α} {a M b:Nat} (hM:a≤M) (hMb:M≤b) (hb:b≤r.size) (hc:Cross lt a M b r) (p1:PermIn a M r y) (s1:SortedIn lt a M y) (p2:PermIn M b y z) (s2:SortedIn lt M b z):SortedIn lt a b z∧PermIn a b r z:=by
 have hy:y.size=r.size:=p1.1
 refine ⟨sorted_join (sorted_other s1 p2 (Or.inl (Nat.le_refl _))) s2 (cross_right (cross_left hc p1 (by omega)) p2 (by omega)),?_⟩
 exact permIn_trans _ _ _ _ _ (permIn_mono _ _ _ _ _ _ (Nat.le_refl _) hMb hb p1) (permIn_mono _ _ _ _ _ _ hM (Nat.le_refl _) (by omega) p2)
end
end Go.Proofs.YthcholmhmcpooaaGreatDoor
