/- Texts for FlightStepsProof. -/
import Derived.Test.YtalmjklljofhbaaGreatDoorFlightStepsProofL25
set_option linter.unusedSimpArgs false
set_option linter.unusedVariables false

namespace Go.Proofs.YtalmjklljofhbaaGreatDoor
open Go.RowKit
set_option maxRecDepth 100000 in
set_option maxHeartbeats 16000000 in
theorem same14_r (a:Option Addr) (n c:Nat) (P:List Pr) (a2:Option Addr) (c2:Nat) (w:World) (h:PL w a n P) (h2:PL w a2 n P) (hn:n≤1000) (hP:∀ p∈P,p.known.length≤4000000000000000000∧p.near.length≤4000000000000000000) :
  Calls Tryz.prog 74 #[.slice a n c,.slice a2 n c2] w fun e w'=>e=.returned (.bool true)∧Ex w w':=by
 have H1:=lH h
 have H2:=lH h2
 have HP:=lH hP
 clear h h2 hP
 go_enter Tryz.func74,Tryz.ntmps74
 go_wp2_with fail
 go_loopw [5] (fun i wr=>KtRel n w i wr) (fun i _=>n-(intOf i).toNat)
 case atStart=>exact ⟨0,Nat.zero_le _,rfl,Ex.refl _⟩
 case round =>
  obtain ⟨k,hk,rfl,kw⟩:=hrel
  obtain ⟨wi,rfl⟩:∃ wi:World,wi=wr:=⟨_,rfl⟩
  have KW:=lH kw
  clear kw
  by_cases hlt:k<n
  ·obtain ⟨xp,op,b1,m1,d1,b4,m4,d4,y,rfl,hxp,hy,p0,p1,p2,p3,p4,s1,s4⟩:=(H1.out.nx KW.out).rd hlt
   obtain ⟨xq,oq,e1,u1,f1,e4,u4,f4,y',rfl,hxq,hy',q0,q1,q2,q3,q4,t1,t4⟩:=(H2.out.nx KW.out).rd hlt
   obtain rfl:y=y':=Option.some.inj (hy.symm.trans hy')
   obtain rfl:m1=u1:=s1.len.symm.trans t1.len
   obtain rfl:m4=u4:=s4.len.symm.trans t4.len
   have hyP:=HP.out y (List.mem_of_getElem? hy)
   have hm1:m1≤4000000000000000000:=by have:=s1.len;omega
   have hm4:m4≤4000000000000000000:=by have:=s4.len;omega
   have A0:=lH (fun wq (k:Ex wi wq)=>Chg.cellv k p0 hxp)
   have A1:=lH (fun wq (k:Ex wi wq)=>Chg.cellv k p1 hxp)
   have A2:=lH (fun wq (k:Ex wi wq)=>Chg.cellv k p2 hxp)
   have A3:=lH (fun wq (k:Ex wi wq)=>Chg.cellv k p3 hxp)
   have A4:=lH (fun wq (k:Ex wi wq)=>Chg.cellv k p4 hxp)
   have B0:=lH (fun wq (k:Ex wi wq)=>Chg.cellv k q0 hxq)
   have B1:=lH (fun wq (k:Ex wi wq)=>Chg.cellv k q1 hxq)
   have B2:=lH (fun wq (k:Ex wi wq)=>Chg.cellv k q2 hxq)
   have B3:=lH (fun wq (k:Ex wi wq)=>Chg.cellv k q3 hxq)
   have B4:=lH (fun wq (k:Ex wi wq)=>Chg.cellv k q4 hxq)
   have S1:=lH s1
   have S4:=lH s4
   have T1:=lH t1
   have T4:=lH t4
   clear p0 p1 p2 p3 p4 q0 q1 q2 q3 q4 s1 s4 t1 t4 hxp hxq hy hy' hyP
   go_upto_region 6 with fail
   refine wp_region_held_drew (S:=Ex wi) (by kernel_rfl) ((Ex.refl wi).drew) (fun hHeld=>?_)
   obtain ⟨wd,hwdx⟩:∃ wd:World,wd=World.drew wi:=⟨_,rfl⟩
   rw [← hwdx] at hHeld ⊢
   have hDrew:Ex wi wd:=by rw [hwdx];exact (Ex.refl wi).drew
   clear hwdx
   refine tkH 0 (v:=?_) rfl (by kernel_rfl) (fun _ _ _ h=>h) (by rfl) ?y5 hHeld ?_
   case y5=>intro wq hSw;go_simp<;>rfl
   try simp only [Act.put,sA,sB,sC]
   refine tkH 1 (v:=?_) rfl (by kernel_rfl) (fun _ _ _ h=>h) (by rfl) ?y8 hHeld ?_
   case y8=>intro wq hSw;go_simp<;>rfl
   try simp only [Act.put,sA,sB,sC]
   refine tkH 2 (v:=?_) rfl (by kernel_rfl) (fun _ _ _ h=>h) (by rfl) ?y11 hHeld ?_
   case y11=>intro wq hSw;go_simp<;>rfl
   try simp only [Act.put,sA,sB,sC]
   refine tkH 3 (v:=?_) rfl (by kernel_rfl) (fun _ _ _ h=>h) (by rfl) ?y14 hHeld ?_
   case y14=>intro wq hSw;go_simp<;>rfl
   try simp only [Act.put,sA,sB,sC]
   refine tkH 4 (v:=?_) rfl (by kernel_rfl) (fun _ _ _ h=>h) (by rfl) ?y17 hHeld ?_
   case y17=>intro wq hSw;(have cq:=A0.out wq hSw;go_simp)<;>rfl
   try simp only [Act.put,sA,sB,sC]
   refine tkH 5 (v:=?_) rfl (by kernel_rfl) (fun _ _ _ h=>h) (by rfl) ?y20 hHeld ?_
   case y20=>intro wq hSw;go_simp<;>rfl
   try simp only [Act.put,sA,sB,sC]
   refine tkH 6 (v:=?_) rfl (by kernel_rfl) (fun _ _ _ h=>h) (by rfl) ?y23 hHeld ?_
   case y23=>intro wq hSw;go_simp<;>rfl
   try simp only [Act.put,sA,sB,sC]
   refine tkH 7 (v:=?_) rfl (by kernel_rfl) (fun _ _ _ h=>h) (by rfl) ?y26 hHeld ?_
   case y26=>intro wq hSw;go_simp<;>rfl
   try simp only [Act.put,sA,sB,sC]
   refine tkH 8 (v:=?_) rfl (by kernel_rfl) (fun _ _ _ h=>h) (by rfl) ?y29 hHeld ?_
   case y29=>intro wq hSw;go_simp<;>rfl
   try simp only [Act.put,sA,sB,sC]
   refine tkH 9 (v:=?_) rfl (by kernel_rfl) (fun _ _ _ h=>h) (by rfl) ?y32 hHeld ?_
   case y32=>intro wq hSw;(have cq:=B0.out wq hSw;go_simp)<;>rfl
   try simp only [Act.put,sA,sB,sC]
   refine tkH 10 (v:=?_) rfl (by kernel_rfl) (fun _ _ _ h=>h) (by rfl) ?y35 hHeld ?_
   case y35=>intro wq hSw;go_simp<;>rfl
   try simp only [Act.put,sA,sB,sC]
   refine tkH 11 (v:=?_) rfl (by kernel_rfl) (fun _ _ _ h=>h) (by rfl) ?y38 hHeld ?_
   case y38=>intro wq hSw;go_simp<;>rfl
   try simp only [Act.put,sA,sB,sC]
   refine tkH 12 (v:=?_) rfl (by kernel_rfl) (fun _ _ _ h=>h) (by rfl) ?y41 hHeld ?_
   case y41=>intro wq hSw;go_simp<;>rfl
   try simp only [Act.put,sA,sB,sC]
   refine tkH 13 (v:=?_) rfl (by kernel_rfl) (fun _ _ _ h=>h) (by rfl) ?y44 hHeld ?_
   case y44=>intro wq hSw;go_simp<;>rfl
   try simp only [Act.put,sA,sB,sC]
   refine tkH 14 (v:=?_) rfl (by kernel_rfl) (fun _ _ _ h=>h) (by rfl) ?y47 hHeld ?_
   case y47=>intro wq hSw;go_simp<;>rfl
   try simp only [Act.put,sA,sB,sC]
   refine tkH 15 (v:=?_) rfl (by kernel_rfl) (fun _ _ _ h=>h) (by rfl) ?y50 hHeld ?_
   case y50=>intro wq hSw;go_simp<;>rfl
   try simp only [Act.put,sA,sB,sC]
   refine tkH 16 (v:=?_) rfl (by kernel_rfl) (fun _ _ _ h=>h) (by rfl) ?y53 hHeld ?_
   case y53=>intro wq hSw;(have cq:=A2.out wq hSw;go_simp)<;>rfl
   try simp only [Act.put,sA,sB,sC]
   refine tkH 17 (v:=?_) rfl (by kernel_rfl) (fun _ _ _ h=>h) (by rfl) ?y56 hHeld ?_
   case y56=>intro wq hSw;go_simp<;>rfl
   try simp only [Act.put,sA,sB,sC]
   refine tkH 18 (v:=?_) rfl (by kernel_rfl) (fun _ _ _ h=>h) (by rfl) ?y59 hHeld ?_
   case y59=>intro wq hSw;go_simp<;>rfl
   try simp only [Act.put,sA,sB,sC]
   refine tkH 19 (v:=?_) rfl (by kernel_rfl) (fun _ _ _ h=>h) (by rfl) ?y62 hHeld ?_
   case y62=>intro wq hSw;go_simp<;>rfl
   try simp only [Act.put,sA,sB,sC]
   refine tkH 20 (v:=?_) rfl (by kernel_rfl) (fun _ _ _ h=>h) (by rfl) ?y65 hHeld ?_
   case y65=>intro wq hSw;go_simp<;>rfl
   try simp only [Act.put,sA,sB,sC]
   refine tkH 21 (v:=?_) rfl (by kernel_rfl) (fun _ _ _ h=>h) (by rfl) ?y68 hHeld ?_
   case y68=>intro wq hSw;(have cq:=B2.out wq hSw;go_simp)<;>rfl
   try simp only [Act.put,sA,sB,sC]
   refine tkH 22 (v:=?_) rfl (by kernel_rfl) (fun _ _ _ h=>h) (by rfl) ?y71 hHeld ?_
   case y71=>intro wq hSw;go_simp<;>rfl
   try simp only [Act.put,sA,sB,sC]
   refine tkH 23 (v:=?_) rfl (by kernel_rfl) (fun _ _ _ h=>h) (by rfl) ?y74 hHeld ?_
   case y74=>intro wq hSw;go_simp<;>rfl
   try simp only [Act.put,sA,sB,sC]
   refine tkH 24 (v:=?_) rfl (by kernel_rfl) (fun _ _ _ h=>h) (by rfl) ?y77 hHeld ?_
   case y77=>intro wq hSw;go_simp<;>rfl
   try simp only [Act.put,sA,sB,sC]
   refine tkH 25 (v:=?_) rfl (by kernel_rfl) (fun _ _ _ h=>h) (by rfl) ?y80 hHeld ?_
   case y80=>intro wq hSw;go_simp<;>rfl
   try simp only [Act.put,sA,sB,sC]
   refine tkH 26 (v:=?_) rfl (by kernel_rfl) (fun _ _ _ h=>h) (by rfl) ?y83 hHeld ?_
   case y83=>intro wq hSw;go_simp<;>rfl
   try simp only [Act.put,sA,sB,sC]
   refine tkH 27 (v:=?_) rfl (by kernel_rfl) (fun _ _ _ h=>h) (by rfl) ?y86 hHeld ?_
   case y86=>intro wq hSw;go_simp<;>rfl
   try simp only [Act.put,sA,sB,sC]
   refine tkH 28 (v:=?_) rfl (by kernel_rfl) (fun _ _ _ h=>h) (by rfl) ?y89 hHeld ?_
   case y89=>intro wq hSw;go_simp<;>rfl
   try simp only [Act.put,sA,sB,sC]
   refine tkH 29 (v:=?_) rfl (by kernel_rfl) (fun _ _ _ h=>h) (by rfl) ?y92 hHeld ?_
   case y92=>intro wq hSw;(have cq:=A3.out wq hSw;go_simp)<;>rfl
   try simp only [Act.put,sA,sB,sC]
   refine tkH 30 (v:=?_) rfl (by kernel_rfl) (fun _ _ _ h=>h) (by rfl) ?y95 hHeld ?_
   case y95=>intro wq hSw;go_simp<;>rfl
   try simp only [Act.put,sA,sB,sC]
   refine tkH 31 (v:=?_) rfl (by kernel_rfl) (fun _ _ _ h=>h) (by rfl) ?y98 hHeld ?_
   case y98=>intro wq hSw;go_simp<;>rfl
   try simp only [Act.put,sA,sB,sC]
   refine tkH 32 (v:=?_) rfl (by kernel_rfl) (fun _ _ _ h=>h) (by rfl) ?y101 hHeld ?_
   case y101=>intro wq hSw;go_simp<;>rfl
   try simp only [Act.put,sA,sB,sC]
   refine tkH 33 (v:=?_) rfl (by kernel_rfl) (fun _ _ _ h=>h) (by rfl) ?y104 hHeld ?_
   case y104=>intro wq hSw;go_simp<;>rfl
   try simp only [Act.put,sA,sB,sC]
   refine tkH 34 (v:=?_) rfl (by kernel_rfl) (fun _ _ _ h=>h) (by rfl) ?y107 hHeld ?_
   case y107=>intro wq hSw;(have cq:=B3.out wq hSw;go_simp)<;>rfl
   try simp only [Act.put,sA,sB,sC]
   refine tkH 35 (v:=?_) rfl (by kernel_rfl) (fun _ _ _ h=>h) (by rfl) ?y110 hHeld ?_
   case y110=>intro wq hSw;go_simp<;>rfl
   try simp only [Act.put,sA,sB,sC]
   refine tkH 36 (v:=?_) rfl (by kernel_rfl) (fun _ _ _ h=>h) (by rfl) ?y113 hHeld ?_
   case y113=>intro wq hSw;go_simp<;>rfl
   try simp only [Act.put,sA,sB,sC]
   refine tkH 37 (v:=?_) rfl (by kernel_rfl) (fun _ _ _ h=>h) (by rfl) ?y116 hHeld ?_
   case y116=>intro wq hSw;go_simp<;>rfl
   try simp only [Act.put,sA,sB,sC]
   refine tkH 38 (v:=?_) rfl (by kernel_rfl) (fun _ _ _ h=>h) (by rfl) ?y119 hHeld ?_
   case y119=>intro wq hSw;go_simp<;>rfl
   try simp only [Act.put,sA,sB,sC]
   refine tkH 39 (v:=?_) rfl (by kernel_rfl) (fun _ _ _ h=>h) (by rfl) ?y122 hHeld ?_
   case y122=>intro wq hSw;go_simp<;>rfl
   try simp only [Act.put,sA,sB,sC]
   refine tkH 40 (v:=?_) rfl (by kernel_rfl) (fun _ _ _ h=>h) (by rfl) ?y125 hHeld ?_
   case y125=>intro wq hSw;go_simp<;>rfl
   try simp only [Act.put,sA,sB,sC]
   refine tkH 41 (v:=?_) rfl (by kernel_rfl) (fun _ _ _ h=>h) (by rfl) ?y128 hHeld ?_
   case y128=>intro wq hSw;go_simp<;>rfl
   try simp only [Act.put,sA,sB,sC]
   refine tkH 42 (v:=?_) rfl (by kernel_rfl) (fun _ _ _ h=>h) (by rfl) ?y131 hHeld ?_
   case y131=>intro wq hSw;(have cq:=A1.out wq hSw;go_simp)<;>rfl
   try simp only [Act.put,sA,sB,sC]
   refine tkH 43 (v:=?_) rfl (by kernel_rfl) (fun _ _ _ h=>h) (by rfl) ?y134 hHeld ?_
   case y134=>intro wq hSw;go_simp<;>rfl
   try simp only [Act.put,sA,sB,sC]
   refine tkH 44 (v:=?_) rfl (by kernel_rfl) (fun _ _ _ h=>h) (by rfl) ?y137 hHeld ?_
   case y137=>intro wq hSw;go_simp<;>rfl
   try simp only [Act.put,sA,sB,sC]
   refine tkH 45 (v:=?_) rfl (by kernel_rfl) (fun _ _ _ h=>h) (by rfl) ?y140 hHeld ?_
   case y140=>intro wq hSw;go_simp<;>rfl
   try simp only [Act.put,sA,sB,sC]
   refine tkH 46 (v:=?_) rfl (by kernel_rfl) (fun _ _ _ h=>h) (by rfl) ?y143 hHeld ?_
   case y143=>intro wq hSw;go_simp<;>rfl
   try simp only [Act.put,sA,sB,sC]
   refine tkH 47 (v:=?_) rfl (by kernel_rfl) (fun _ _ _ h=>h) (by rfl) ?y146 hHeld ?_
   case y146=>intro wq hSw;(have cq:=B1.out wq hSw;go_simp)<;>rfl
   try simp only [Act.put,sA,sB,sC]
   refine rH 48 (by kernel_rfl) rfl fun K hK=>?_
   go_simp
   (with_reducible refine (sameints_x _ _ _ _ _ y.known _ (S1.out.nx hHeld) (T1.out.nx hHeld) (by omega)).mono ?_)
   rintro e wb ⟨rfl,kk⟩
   replace hHeld:=hHeld.nx kk
   clear kk
   refine hK.out _ _ (hHeld) (fun hHeld=>?_)
   clear hK K
   try simp only [Act.put,sA,sB,sC]
   refine tkH 49 (v:=?_) rfl (by kernel_rfl) (fun _ _ _ h=>h) (by rfl) ?y159 hHeld ?_
   case y159=>intro wq hSw;go_simp<;>rfl
   try simp only [Act.put,sA,sB,sC]
   refine tkH 50 (v:=?_) rfl (by kernel_rfl) (fun _ _ _ h=>h) (by rfl) ?y162 hHeld ?_
   case y162=>intro wq hSw;go_simp<;>rfl
   try simp only [Act.put,sA,sB,sC]
   refine tkH 51 (v:=?_) rfl (by kernel_rfl) (fun _ _ _ h=>h) (by rfl) ?y165 hHeld ?_
   case y165=>intro wq hSw;go_simp<;>rfl
   try simp only [Act.put,sA,sB,sC]
   refine tkH 52 (v:=?_) rfl (by kernel_rfl) (fun _ _ _ h=>h) (by rfl) ?y168 hHeld ?_
   case y168=>intro wq hSw;go_simp<;>rfl
   try simp only [Act.put,sA,sB,sC]
   refine tkH 53 (v:=?_) rfl (by kernel_rfl) (fun _ _ _ h=>h) (by rfl) ?y171 hHeld ?_
   case y171=>intro wq hSw;go_simp<;>rfl
   try simp only [Act.put,sA,sB,sC]
   refine tkH 54 (v:=?_) rfl (by kernel_rfl) (fun _ _ _ h=>h) (by rfl) ?y174 hHeld ?_
   case y174=>intro wq hSw;go_simp<;>rfl
   try simp only [Act.put,sA,sB,sC]
   refine tkH 55 (v:=?_) rfl (by kernel_rfl) (fun _ _ _ h=>h) (by rfl) ?y177 hHeld ?_
   case y177=>intro wq hSw;go_simp<;>rfl
   try simp only [Act.put,sA,sB,sC]
   refine tkH 56 (v:=?_) rfl (by kernel_rfl) (fun _ _ _ h=>h) (by rfl) ?y180 hHeld ?_
   case y180=>intro wq hSw;(have cq:=A4.out wq hSw;go_simp)<;>rfl
   try simp only [Act.put,sA,sB,sC]
   refine tkH 57 (v:=?_) rfl (by kernel_rfl) (fun _ _ _ h=>h) (by rfl) ?y183 hHeld ?_
   case y183=>intro wq hSw;go_simp<;>rfl
   try simp only [Act.put,sA,sB,sC]
   refine tkH 58 (v:=?_) rfl (by kernel_rfl) (fun _ _ _ h=>h) (by rfl) ?y186 hHeld ?_
   case y186=>intro wq hSw;go_simp<;>rfl
   try simp only [Act.put,sA,sB,sC]
   refine tkH 59 (v:=?_) rfl (by kernel_rfl) (fun _ _ _ h=>h) (by rfl) ?y189 hHeld ?_
   case y189=>intro wq hSw;go_simp<;>rfl
   try simp only [Act.put,sA,sB,sC]
   refine tkH 60 (v:=?_) rfl (by kernel_rfl) (fun _ _ _ h=>h) (by rfl) ?y192 hHeld ?_
   case y192=>intro wq hSw;go_simp<;>rfl
   try simp only [Act.put,sA,sB,sC]
   refine tkH 61 (v:=?_) rfl (by kernel_rfl) (fun _ _ _ h=>h) (by rfl) ?y195 hHeld ?_
   case y195=>intro wq hSw;go_simp<;>rfl
   try simp only [Act.put,sA,sB,sC]
   refine tkH 62 (v:=?_) rfl (by kernel_rfl) (fun _ _ _ h=>h) (by rfl) ?y198 hHeld ?_
   case y198=>intro wq hSw;(have cq:=B4.out wq hSw;go_simp)<;>rfl
   try simp only [Act.put,sA,sB,sC]
   refine tkH 63 (v:=?_) rfl (by kernel_rfl) (fun _ _ _ h=>h) (by rfl) ?y201 hHeld ?_
   case y201=>intro wq hSw;go_simp<;>rfl
   try simp only [Act.put,sA,sB,sC]
   refine tkH 64 (v:=?_) rfl (by kernel_rfl) (fun _ _ _ h=>h) (by rfl) ?y204 hHeld ?_
   case y204=>intro wq hSw;go_simp<;>rfl
   try simp only [Act.put,sA,sB,sC]
   refine tkH 65 (v:=?_) rfl (by kernel_rfl) (fun _ _ _ h=>h) (by rfl) ?y207 hHeld ?_
   case y207=>intro wq hSw;go_simp<;>rfl
   try simp only [Act.put,sA,sB,sC]
   refine wpAnyH_done (by kernel_rfl) ?_ _
   have K6:=lH hHeld
   clear hHeld hDrew
   have cq:=A4.out _ K6.out
   go_wp2_with fail
   go_loopw [6] (fun i wr=>KtRel m4 wb i wr) (fun i _=>m4-(intOf i).toNat)
   case atStart=>exact ⟨0,Nat.zero_le _,rfl,Ex.refl _⟩
   case round =>
    clear cq
    obtain ⟨t,ht,rfl,kv⟩:=hrel
    obtain ⟨wj,rfl⟩:∃ wj:World,wj=wr:=⟨_,rfl⟩
    have KV:=lH (K6.out.nx kv)
    have KJ:=lH kv
    clear kv
    have cq:=A4.out _ KV.out
    have cr:=B4.out _ KV.out
    by_cases htt:t<m4
    ·obtain ⟨xa,oa,z,rfl,hxa,hz,hca⟩:=(S4.out.nx KV.out).at htt
     obtain ⟨xb,ob,z',rfl,hxb,hz',hcb⟩:=(T4.out.nx KV.out).at htt
     obtain rfl:z=z':=Option.some.inj (hz.symm.trans hz')
     have f0:wj.cell? ⟨xa,oa+t*4,none⟩=some (.int .i64 z.1):=by simpa using hca 0 _ rfl
     have f1:wj.cell? ⟨xa,oa+t*4+1,none⟩=some (.int .i64 z.2.1):=by simpa using hca 1 _ rfl
     have f2:wj.cell? ⟨xa,oa+t*4+1+1,none⟩=some (.int .i64 z.2.2.1):=by simpa [Nat.add_assoc] using hca 2 _ rfl
     have f3:wj.cell? ⟨xa,oa+t*4+1+1+1,none⟩=some (.int .i64 z.2.2.2):=by simpa [Nat.add_assoc] using hca 3 _ rfl
     have g0:wj.cell? ⟨xb,ob+t*4,none⟩=some (.int .i64 z.1):=by simpa using hcb 0 _ rfl
     have g1:wj.cell? ⟨xb,ob+t*4+1,none⟩=some (.int .i64 z.2.1):=by simpa using hcb 1 _ rfl
     have g2:wj.cell? ⟨xb,ob+t*4+1+1,none⟩=some (.int .i64 z.2.2.1):=by simpa [Nat.add_assoc] using hcb 2 _ rfl
     have g3:wj.cell? ⟨xb,ob+t*4+1+1+1,none⟩=some (.int .i64 z.2.2.2):=by simpa [Nat.add_assoc] using hcb 3 _ rfl
     have RR:=lH (fun m=>show KtRel m4 wb (.int .i64 ((t:Int)+1)) (wj.drewN m) from ⟨t+1,by omega,by go_num,KJ.out.drewN m⟩)
     clear hca hcb hz hz' hxa hxb
     go_wp2_with fail
     go_quiet (fail)
     go_wp2_with fail
     exact ⟨RR.out _,by simp [intOf];omega⟩
    ·obtain rfl:t=m4:=by omega
     have RR:=lH (show KtRel n w (.int .i64 ((k:Int)+1)) wj from ⟨k+1,by omega,by go_num,KW.out.nx KV.out⟩)
     clear ht htt
     go_wp2_with fail
     exact ⟨RR.out,by simp [intOf];omega⟩
  ·obtain rfl:k=n:=by omega
   have K1:=lH KW.out
   clear hk
   go_wp2_with fail
   go_ret
   exact ⟨rfl,K1.out⟩
end Go.Proofs.YtalmjklljofhbaaGreatDoor
