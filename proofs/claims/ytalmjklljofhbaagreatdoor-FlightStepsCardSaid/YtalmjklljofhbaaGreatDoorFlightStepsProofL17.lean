/- Texts for FlightStepsProof. -/
import Derived.Test.YtalmjklljofhbaaGreatDoorFlightStepsProofL14
import Derived.Test.YtalmjklljofhbaaGreatDoorFlightStepsProofL15
set_option linter.unusedSimpArgs false
set_option linter.unusedVariables false

namespace Go.Proofs.YtalmjklljofhbaaGreatDoor
open Go.RowKit
def brkN (x:Nd) (lev:Int) (y:Nd):Bool:=y.id==x.id||sameN x.word y.word (lev+1)
def runStep (x:Nd) (lev:Int) (s:Nat×Nat) (y:Nd):Nat×Nat:=if brkN x lev y then (s.1,0) else (max s.1 (s.2+1),s.2+1)
def runF (x:Nd) (lev:Int) (G:List Nd):Nat×Nat:=G.foldl (runStep x lev) (0,0)
def runN (l:List Nd) (id lev:Int):Nat:=if checkN l=0∧(findN l id).2=true∧lvlN lev=true then (runF (findN l id).1 lev (thrG l id lev)).1 else 0
section
variable {x:Nd} {lev:Int}
theorem run_inv:∀ (G:List Nd) (s:Nat×Nat),s.2≤s.1→(G.foldl (runStep x lev) s).2≤(G.foldl (runStep x lev) s).1∧s.1≤(G.foldl (runStep x lev) s).1
 | [],s,h=>⟨h,Nat.le_refl _⟩
 | y::G,s,h=>by
  have h1:(runStep x lev s y).2≤(runStep x lev s y).1∧s.1≤(runStep x lev s y).1:=by
   unfold runStep
   split
   ·exact ⟨Nat.zero_le _,Nat.le_refl _⟩
   ·exact ⟨by show s.2+1≤max s.1 (s.2+1);omega,by show s.1≤max s.1 (s.2+1);omega⟩
  have:=run_inv G _ h1.1
  exact ⟨this.1,Nat.le_trans h1.2 this.2⟩
theorem run_q:∀ (Q:List Nd) (s:Nat×Nat),s.2≤s.1→(∀ y∈Q,brkN x lev y=false)→(Q.foldl (runStep x lev) s).2=s.2+Q.length
 | [],s,_,_=>rfl
 | y::Q,s,h,hQ=>by
  have e:runStep x lev s y=(max s.1 (s.2+1),s.2+1):=by unfold runStep;rw [hQ y (by simp)];rfl
  show (Q.foldl (runStep x lev) (runStep x lev s y)).2=_
  rw [e,run_q Q _ (by simp only;omega) (fun z hz=>hQ z (by simp [hz]))]
  simp only [List.length_cons]
  omega
theorem run_seg (A Q B:List Nd) (hQ:∀ y∈Q,brkN x lev y=false):Q.length≤(runF x lev (A++Q++B)).1:=by
 unfold runF
 rw [List.foldl_append,List.foldl_append]
 have h1:=run_inv (x:=x) (lev:=lev) A (0,0) (Nat.le_refl _)
 have h2:=run_q Q _ h1.1 hQ
 have h3:=run_inv (x:=x) (lev:=lev) Q _ h1.1
 have h4:=run_inv (x:=x) (lev:=lev) B _ h3.1
 omega
end
theorem runN_eq {l:List Nd} (h0:checkN l=0) {x:Nd} (hx:x∈l) {h:Nat} (hh:h≤16):runN l x.id h=(runF x h (grpS l h x.word)).1:=by
 have hf:=find_in h0 hx
 unfold runN thrG
 rw [hf,if_pos ⟨h0,rfl,by unfold lvlN;simp;omega⟩]
 rfl
end Go.Proofs.YtalmjklljofhbaaGreatDoor
