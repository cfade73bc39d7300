/- Shared texts. -/
import Derived.Laws.OwnMore
import Derived.Test.YthdkeibapcaclaaGreatDoorFmAll25
set_option linter.unusedSimpArgs false
set_option linter.unusedVariables false

namespace Go.Proofs.YthdkeibapcaclaaGreatDoor
open Go.RowKit
theorem OwnP.app2 {eP eI eN:TypeId} (hI:eP≠eI) (hN:eP≠eN) {base:Nat} {w0 w1 w2:World} {v v':Value} {qs:List PQ} {P:List Pr} {p:Pr} {hk hn:Hdr} (h:OwnP eP eI eN base w0 v qs P) (hb:base≤w0.heap.size) (h1:OwnP eP eI eN base w1 v qs P)
  (ik:OwnL 1 encI eI w0.heap.size w1 hk.val p.known) (inr:OwnL 4 encNr eN w0.heap.size w1 hn.val p.near)
  (ho:OwnW 5 encQ eP base w2 v' (qs++[(p.nums,hk,hn)])) (k:Chg (fun k=>k<w1.heap.size∧¬ v.ownBlock=some k) w1 w2):OwnP eP eI eN base w2 v' (qs++[(p.nums,hk,hn)]) (P++[p]):=by
 refine h1.push hI hN ho k (ik.base hb) (inr.base hb) (fun j r g hr hg hv=>?_) (fun j r g hr hg hv=>?_)
 ·obtain ⟨q,_,_,r2,_⟩:=h.getp hr
  have h1:=(r2.lt g hg).2
  have h2:=(ik.lt g hv).1
  omega
 ·obtain ⟨q,_,_,_,r3⟩:=h.getp hr
  have h1:=(r3.lt g hg).2
  have h2:=(inr.lt g hv).1
  omega
def FewP (m:Nat) (P:List Pr):Prop:=∀ p∈P,p.known.length≤3∧p.near.length≤m∧I64 p.id
theorem FewP.snoc {m:Nat} {P:List Pr} (h:FewP m P) {p:Pr} (hp:p.known.length≤3∧p.near.length≤m∧I64 p.id):FewP m (P++[p]):=fun x hx=>by
 rcases List.mem_append.1 hx with h1 | h1
 ·exact h x h1
 ·rw [List.mem_singleton.1 h1];exact hp
def FewQ (m M:Nat) (P:List Pr):Prop:=∀ p∈P,p.known.length≤m∧p.near.length≤M
theorem FewQ.snoc {m M:Nat} {P:List Pr} (h:FewQ m M P) {p:Pr} (hp:p.known.length≤m∧p.near.length≤M):FewQ m M (P++[p]):=fun x hx=>by
 rcases List.mem_append.1 hx with h1 | h1
 ·exact h x h1
 ·rw [List.mem_singleton.1 h1];exact hp
theorem FewQ.set {m M m' M' a:Nat} {P:List Pr} (h:FewQ m M P) (hm:m≤m') (hM:M≤M') {p:Pr} (hp:p.known.length≤m'∧p.near.length≤M'):FewQ m' M' (P.set a p):=fun x hx=>by
 rcases List.mem_or_eq_of_mem_set hx with h1 | h1
 ·have:=h x h1;omega
 ·rw [h1];exact hp
end Go.Proofs.YthdkeibapcaclaaGreatDoor
