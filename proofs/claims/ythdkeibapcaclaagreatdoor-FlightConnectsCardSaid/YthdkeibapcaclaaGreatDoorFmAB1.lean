/- Shared texts. -/
import Derived.Test.YthdkeibapcaclaaGreatDoorFmABC1
import Derived.Test.YthdkeibapcaclaaGreatDoorFmABD1
set_option linter.unusedSimpArgs false
set_option linter.unusedVariables false

namespace Go.Proofs.YthdkeibapcaclaaGreatDoor
open Go.RowKit
theorem cells2 {w:World} {k:Nat} {x y:Value} {ty:TypeId} (h:w.heap[k]?=some (.cells #[x,y] ty (0,0))):w.cell? ⟨k,0,none⟩=some x∧w.cell? ⟨k,1,none⟩=some y∧w.frozen? ⟨k,0,none⟩=false∧w.frozen? ⟨k,1,none⟩=false:=by simp [World.cell?,World.frozen?,h]
section
variable {N:List Nd}
theorem ar_mem (h0:checkN N=0) {p:Pr} {u:Int} (h:u∈arN N p):(∃ x∈N,x.id=u)∧(u=p.id∨u∈refsN N p):=by
 unfold arN at h
 split at h
 ·obtain ⟨h1,_,h3⟩:=mem_ord.1 h
  refine ⟨h1,?_⟩
  rcases List.mem_append.1 h3 with h | h
  ·exact .inr h
  ·exact .inl (List.mem_singleton.1 h)
 ·cases h
variable {P:List Pr}
end
section
variable {N:List Nd} {f:Fl}
theorem chain_int {R:Int→Int→Prop}:∀ (l:List Int),(∀ A a b B,l=A++a::b::B→R a b∨R b a)→∀ x∈l,∀ y∈l,Cl R x y
 | [],_,x,hx,_,_=>by cases hx
 | [a],_,x,hx,y,hy=>by
  simp only [List.mem_singleton] at hx hy
  subst hx hy
  exact .refl _
 | a::b::l,h,x,hx,y,hy=>by
  have ih:=chain_int (b::l) (fun A u v B e=>h (a::A) u v B (by rw [e];rfl))
  have hab:Cl R a b:=Cl.one (h [] a b l rfl)
  have hb:∀ z∈a::b::l,Cl R b z:=by
   intro z hz
   rcases List.mem_cons.1 hz with rfl | hz
   ·exact hab.symm
   ·exact ih b (by simp) z hz
  exact (hb x hx).symm.trans (hb y hy)
theorem row_cl (h0:checkN N=0) {p:Pr} {R:Int→Int→Prop} (hR:∀ u v,(u,v)∈introsN N p→nodeB N u→nodeB N v→R u v):∀ x∈arN N p,∀ y∈arN N p,Cl R x y:=by
 refine chain_int _ fun A a b B e=>?_
 have hn:=ar_nodup h0 (p:=p)
 have ha:=(ar_mem h0 (p:=p) (u:=a) (by rw [e];simp)).1
 have hb:=(ar_mem h0 (p:=p) (u:=b) (by rw [e];simp)).1
 have hab:a≠b:=by
  rw [e] at hn
  have:=(List.nodup_append.1 hn).2.1
  rw [List.nodup_cons] at this
  exact fun he=>this.1 (by rw [he];simp)
 have hm:=prs_mem (id:=p.id) (a:=a) (b:=b) (A:=A) (B:=B)
 rw [← e] at hm
 by_cases h:a=p.id
 ·exact .inr (hR b a (hm.2 (fun he=>hab (h.trans he.symm))) hb ha)
 ·exact .inl (hR a b (hm.1 h) ha hb)
theorem tick_conn (hc:ConnF N f) (id h:Int):ConnF N (tickF N f id h):=by
 have h0:=hc.1
 by_cases hy:lvlN h=true∧(copF N f).peers.any (fun p=>p.id==id)=true
 ·obtain ⟨k,rfl⟩:=Int.eq_ofNat_of_zero_le (show 0≤h by have:=hy.1;unfold lvlN at this;simp at this;exact this.1)
  have hk:k≤16:=by have:=hy.1;unfold lvlN at this;simp at this;omega
  obtain ⟨x,hx,rfl⟩:∃ x∈N,x.id=id:=by
   obtain ⟨p,hp,he⟩:=List.any_eq_true.1 hy.2
   rw [cop_map h0] at hp
   obtain ⟨x,hx,rfl⟩:=List.mem_map.1 hp
   exact ⟨x,(sortN_mem N x).1 hx,by simpa [peer_id] using he⟩
  have hm:(tickF N f x.id k).msgs=f.msgs++introsN N (peerN f.peers x.id):=by rw [tick_yes h0 hx hk]
  refine connF_of hc fun a b e=>?_
  rcases e with ⟨⟨y,hyN,rfl⟩,hv⟩ | ⟨hmm,hu,hv⟩
  ·by_cases he:y.id=x.id
   ·rw [he] at hv ⊢
    have hR:∀ u v,(u,v)∈introsN N (peerN f.peers x.id)→nodeB N u→nodeB N v→EdgeF N (tickF N f x.id k) u v:=fun u v hu h1 h2=>.inr ⟨by rw [hm];exact List.mem_append_right _ hu,h1,h2⟩
    have hin:∀ v,v=x.id∨v∈refsN N (peerN f.peers x.id)→v∈arN N (peerN f.peers x.id):=by
     intro v hv
     rw [ar_eq h0 hx (peer_id _ _).symm]
     have hvN:∃ z∈N,z.id=v:=by
      rcases hv with rfl | hv
      ·exact ⟨x,hx,rfl⟩
      ·exact ((mem_refs h0).1 hv).1
     obtain ⟨z,hz,rfl⟩:=hvN
     refine List.mem_map.2 ⟨z,List.mem_filter.2 ⟨(sortN_mem N z).2 hz,?_⟩,rfl⟩
     rw [peer_id,Bool.or_eq_true]
     rcases hv with hv | hv
     ·exact .inl (by simpa using hv)
     ·exact .inr (by rw [List.contains_iff_mem];exact ((mem_refs h0).1 hv).2.2)
    exact row_cl h0 hR x.id (hin _ (.inl rfl)) b (hin _ (.inr hv))
   ·refine Cl.one (.inl (.inl ⟨⟨y,hyN,rfl⟩,?_⟩))
    rw [tick_peer h0 hx hyN hk,if_neg he]
    exact hv
  ·exact Cl.one (.inl (.inr ⟨by rw [hm];exact List.mem_append_left _ hmm,hu,hv⟩))
 ·rw [tick_no hy]
  exact copF_conn hc
theorem dbl_conn (hc:ConnF N f) (k:Int) (most:Nat):ConnF N (dblF f k most):=by
 unfold dblF
 split
 ·split
  ·exact hc
  ·refine connF_of hc fun a b e=>Cl.one (.inl ?_)
   rcases e with e | ⟨e,h1,h2⟩
   ·exact .inl e
   ·exact .inr ⟨List.mem_append_left _ e,h1,h2⟩
 ·exact hc
end
section
variable {N:List Nd} {f g:Fl}
theorem conn_made {P:List Pr} (h:ConnN N P) (M:List (Int×Int)):ConnF N ⟨normalN N P,M⟩:=by
 refine ⟨h.1,fun x hx y hy=>(h.2 x hx y hy).mono fun a c e=>Cl.one (.inl (.inl ?_))⟩
 exact (edge_same (fun z hz=>(normal_peer h.1 hz).symm) a c).1 e
theorem Flies.more {B B':Nat} (h:Flies N B f) (hb:B≤B'):Flies N B' f:=⟨h.conn,h.sm,h.len,Nat.le_trans h.msgs hb⟩
theorem Flies.tick {B:Nat} (hN:N.length≤10) (h:Flies N B f) (id hh:Int):Flies N (B+20) (tickF N f id hh) :=
 ⟨tick_conn h.conn id hh,tick_sm (by omega) h.sm id hh,norm_lenF (norm_tick h.conn.1 f id hh),by have:=tick_len h.conn.1 (f:=f) id hh;have:=h.msgs;omega⟩
theorem Flies.dbl {B:Nat} (h:Flies N B f) (k:Int) (most:Nat):Flies N (B+20) (dblF f k most) :=
 ⟨dbl_conn h.conn k most,dbl_sm h.sm k most,by rw [dbl_peers];exact h.len,by have:=(dbl_len f k most).1;have:=h.msgs;omega⟩
end
section
variable {S S':Nat→Prop} {w w':World} {a:Option Addr} {n:Nat} {P:List Pr}
end
section
variable {X X':Nat→Prop} {w w':World} {aP aM:Option Addr} {F:Fl}
end
theorem left_t {b:Nat} (w:World) (h:TK w b):Calls Tryz.prog 65 #[.pointer (some ⟨b,0,none⟩)] w fun e w'=>∃ r:Bool,e=.returned (.bool r)∧TK w' b∧Ex w w':=by
 have T:=h
 obtain ⟨a,cap,i,x,o,l,h1,h2,h3,h4,h5⟩:=h
 have q0:w.cell? ⟨b,0,none⟩=some (.slice a l.length cap):=(cells2 h1).1
 have q1:w.cell? ⟨b,1,none⟩=some (.int .i64 i):=(cells2 h1).2.1
 have hl:l.length≤600:=h3
 have TH:=lH T
 clear h1 h2 h3 h4 h5 T
 generalize l.length=n at q0 hl
 go_enter Tryz.func65,Tryz.ntmps65
 go_wp2_with fail
 go_quiet (fail)
 go_wp2_with fail
 go_ret
 exact ⟨_,rfl,TH.out.nx ((Ex.refl _).drewN _),(Ex.refl _).drewN _⟩
def XP (X:Nat→Prop) (g7 g10 k:Nat):Prop:=X k∨k=g7∨k=g10
def FyRel (X:Nat→Prop) (b g7 g10 n:Nat) (N:List Nd) (B:Nat) (w:World) (i:Value) (wr:World):Prop :=
 ∃ (k:Nat) (aQ:Option Addr) (cQ:Nat) (aR:Option Addr) (cR:Nat) (F:Fl),k≤n∧i=.int .i64 k∧Blk wr g7 [.slice aQ F.peers.length cQ,.slice aR F.msgs.length cR] 27∧FlX (XP X g7 g10) wr aQ aR F∧Flies N (B+20*k) F ∧
  Blk wr g10 [.slice none 0 0,.slice none 0 0] 27∧TK wr b∧Exb b w wr
def FyPost (X:Nat→Prop) (b:Nat) (N:List Nd) (B:Nat) (w:World) (e:Ending) (w':World):Prop :=
 ∃ (aQ:Option Addr) (cQ:Nat) (aR:Option Addr) (cR:Nat) (F:Fl),e=.returned (.agg #[.slice aQ F.peers.length cQ,.slice aR F.msgs.length cR])∧FlX X w' aQ aR F∧Flies N B F∧TK w' b∧Exb b w w'
set_option maxRecDepth 100000 in
set_option maxHeartbeats 16000000 in
theorem play_x {b:Nat} (a:Option Addr) (nN c:Nat) (N:List Nd) (a2:Option Addr) (c2:Nat) (a3:Option Addr) (c3:Nat) (F0:Fl) (hh:Int) (n B:Nat) (X:Nat→Prop) (w:World) (hXb:X b) (hXl:∀ k,X k→k<w.heap.size) (h:TK w b) (hs:Slb 3 encN b w a nN N) (hn:nN≤10) (hc:nN≤c) (hm:c≤maxLen) (hi:∀ x∈N,I64 x.id) (hw:∀ x∈N,x.word<4294967296)
  (hF:FlX X w a2 a3 F0) (hfl:Flies N B F0) (hB:B+20*n≤100000) :
  Calls Tryz.prog 27 #[.pointer (some ⟨b,0,none⟩),.slice a nN c,.agg #[.slice a2 F0.peers.length c2,.slice a3 F0.msgs.length c3],.int .i64 hh,.int .i64 n] w (FyPost X b N (B+20*n) w):=by
 have hbw:=h.lt
 have HI:=lH hi
 have HW:=lH hw
 have HS:=lH (fun wq (kq:Exb b w wq)=>hs.nxb kq)
 have HNL:N.length≤10:=by have:=hs.len;omega
 have HFL:=lH hfl
 clear hi hw hs hfl
 obtain ⟨g7,hg7⟩:∃ g7,g7=w.heap.size:=⟨_,rfl⟩
 obtain ⟨g10,hg10⟩:∃ g10,g10=(w.heap.size+1):=⟨_,rfl⟩
 obtain ⟨w1,hw1⟩:∃ w1,w1=((w.alloc (.cells #[.slice a2 F0.peers.length c2,.slice a3 F0.msgs.length c3] 27)).alloc (.cells #[.slice none 0 0,.slice none 0 0] 27)):=⟨_,rfl⟩
 have kk:Ex w w1:=by rw [hw1];exact (((Ex.refl w).alloc (.cells #[.slice a2 F0.peers.length c2,.slice a3 F0.msgs.length c3] 27)).alloc (.cells #[.slice none 0 0,.slice none 0 0] 27))
 have B7:Blk w1 g7 [.slice a2 F0.peers.length c2,.slice a3 F0.msgs.length c3] 27:=by rw [hw1];simp only [hg7,hg10];have hbk:=((Blk.new w [.slice a2 F0.peers.length c2,.slice a3 F0.msgs.length c3] 27).nx (Ex.new _ (.cells #[.slice none 0 0,.slice none 0 0] 27)));simpa using hbk
 have B10:Blk w1 g10 [.slice none 0 0,.slice none 0 0] 27:=by rw [hw1];simp only [hg7,hg10];have hbk:=(Blk.new (w.alloc (.cells #[.slice a2 F0.peers.length c2,.slice a3 F0.msgs.length c3] 27)) [.slice none 0 0,.slice none 0 0] 27);simpa using hbk
 have Hw1:=lH hw1
 have Hg7:=lH hg7
 have Hg10:=lH hg10
 replace h:=h.nx kk
 have zg7:w.heap.size≤g7:=by omega
 have zg10:w.heap.size≤g10:=by omega
 have h107:g10≠g7:=by omega
 have hb7:¬ g7=b:=by omega
 have hb10:¬ g10=b:=by omega
 have hx7:XP X g7 g10 g7:=.inr (.inl rfl)
 have hx10:XP X g7 g10 g10:=.inr (.inr rfl)
 have hxb:XP X g7 g10 b:=.inl hXb
 have FSn:FlX (XP X g7 g10) w1 a2 a3 F0:=(hF.mono (fun k hk e=>by rcases e with e | rfl | rfl;exact e;omega;omega)).nx kk
 have R0:=lH (show FyRel X b g7 g10 n N B w (.int .i64 0) w1 from ⟨0,a2,c2,a3,c3,F0,by omega,rfl,B7,FSn,HFL.out.more (by omega),B10,h,kk.b b⟩)
 clear kk hg7 hg10 B7 B10 h FSn hF hw1
 go_enter Tryz.func27,Tryz.ntmps27
 go_upto_region 2 with fail
 rw [← Hw1.out,← Hg10.out,← Hg7.out]
 clear Hw1 Hg10 Hg7
 go_loopw [11] (fun i wr=>FyRel X b g7 g10 n N B w i wr) (fun i _=>n-(intOf i).toNat)
 case atStart=>exact R0.out
 case round =>
  clear R0
  obtain ⟨k,aQ,cQ,aR,cR,F,hk,rfl,B7,FSn,FI,B10,T,kw⟩:=hrel
  obtain ⟨wi,rfl⟩:∃ wi:World,wi=wr:=⟨_,rfl⟩
  have KW:=lH kw
  have FSH:=lH FSn
  have FIH:=lH FI
  have TH:=lH T
  have B7H:=lH B7
  have B10H:=lH B10
  have hl7:=B7.lt
  have hl10:=B10.lt
  have hlb:=T.lt
  have zP:F.peers.length≤10:=by have:=FI.len;omega
  have zM:F.msgs.length≤100000:=by have:=FI.msgs;omega
  clear kw FSn FI T B7 B10
  by_cases hkn:k<n
  ·go_wp2_with fail
   (with_reducible refine (left_t _ TH.out).mono ?_)
   rintro e wj ⟨β,rfl,T,kk⟩
   replace KW:=lH (KW.out.nxb (kk.b b))
   replace FSH:=lH (FSH.out.nx kk)
   replace B7H:=lH (B7H.out.nx kk)
   replace B10H:=lH (B10H.out.nx kk)
   have hj:=kk.size
   clear TH
   have TH:=lH T
   clear kk T
   cases β with
   | false =>
    have r0:=B7H.out.cell 0 _ rfl
    have r1:=B7H.out.cell 1 _ rfl
    have p0:=B10H.out.cell 0 _ rfl
    have p1:=B10H.out.cell 1 _ rfl
    have f0:=B10H.out.free 0
    have f1:=B10H.out.free 1
    go_wp2_with fail
    obtain ⟨wz,hwz⟩:∃ wz,wz=(wj.setCell ⟨g10,0,none⟩ (.slice aQ F.peers.length cQ)).setCell ⟨g10,1,none⟩ (.slice aR F.msgs.length cR):=⟨_,rfl⟩
    have BZ:Blk wz g10 [.slice aQ F.peers.length cQ,.slice aR F.msgs.length cR] 27:=by rw [hwz];exact (B10H.out.set 0 _).set 1 _
    have KE:Exb b w wz:=by rw [hwz];exact (KW.out.setNew (p:=⟨g10,0,none⟩) _ zg10).setNew (p:=⟨g10,1,none⟩) _ zg10
    have TE:TK wz b:=by rw [hwz];exact (TH.out.set (p:=⟨g10,0,none⟩) _ (by show b<g10;omega)).set (p:=⟨g10,1,none⟩) _ (by show b<g10;omega)
    have FF:=lH (show FlX X wz aQ aR F from by rw [hwz];exact ((FSH.out.set (p:=⟨g10,0,none⟩) _ hx10).set (p:=⟨g10,1,none⟩) _ hx10).mono (fun k _ e=>.inl e))
    rw [← hwz]
    have s0:=BZ.cell 0 _ rfl
    have s1:=BZ.cell 1 _ rfl
    clear r0 r1 f0 f1 p0 p1 hwz
    refine bodyPost_ret (v:=.agg #[.slice aQ F.peers.length cQ,.slice aR F.msgs.length cR]) (by simp [results,Tryz.results27,go_sem, *]) rfl ⟨aQ,cQ,aR,cR,F,rfl,FF.out,FIH.out.more (by omega),TE,KE⟩
   | true =>
    have c1:=B7H.out.cell 1 _ rfl
    go_upto_region 4 with fail
    go_wp2_with fail
    refine (next_t (max (F.msgs.length:Int) 1) _ TH.out (by omega) (by omega)).mono ?_
    clear TH c1
    rintro e wk ⟨r0,rfl,r00,r01,T,kk⟩
    replace KW:=lH (KW.out.nxb kk)
    replace FSH:=lH (FSH.out.nxb hxb kk)
    replace B7H:=lH (B7H.out.nxb hb7 kk)
    replace B10H:=lH (B10H.out.nxb hb10 kk)
    have hk2:=kk.size
    clear kk
    go_wp2_with fail
    refine (next_t 6 _ T (by omega) (by omega)).mono ?_
    clear T
    rintro e wj ⟨r2,rfl,r20,r21,T,kk⟩
    replace KW:=lH (KW.out.nxb kk)
    replace FSH:=lH (FSH.out.nxb hxb kk)
    replace B7H:=lH (B7H.out.nxb hb7 kk)
    replace B10H:=lH (B10H.out.nxb hb10 kk)
    have hk3:=kk.size
    have TH:=lH T
    clear kk T
    by_cases t0:r2=0
    ·subst t0
     go_upto_region 9 with fail
     refine wp_region_late_drew (S:=Exb b wj) [7] (by kernel_rfl) ((Exb.refl b wj).drew) (fun hHeld=>?_)
     obtain ⟨wd,hwdx⟩:∃ wd:World,wd=World.drew wj:=⟨_,rfl⟩
     rw [← hwdx] at hHeld ⊢
     have hDrew:Ex wj wd:=by rw [hwdx];exact (Ex.refl wj).drew
     clear hwdx
     refine tkL 0 (v:=?_) rfl (by kernel_rfl) (fun _ _ _ h=>h) (by rfl) ?y1x0q5 (by assumption) ?z1x0q5
     case y1x0q5=>intro wq hSw;(go_simp);(try with_reducible rfl)
     refine tkL 1 (v:=?_) rfl (by kernel_rfl) (fun _ _ _ h=>h) (by rfl) ?y1x1q8 (by assumption) ?z1x1q8
     case y1x1q8=>intro wq hSw;(have cq0:=(B7H.out.nxb hb7 hSw).cell 0 _ rfl;have cq1:=(B7H.out.nxb hb7 hSw).cell 1 _ rfl;go_simp);(try with_reducible rfl)
     refine tkL 2 (v:=?_) rfl (by kernel_rfl) (fun _ _ _ h=>h) (by rfl) ?y1x2q11 (by assumption) ?z1x2q11
     case y1x2q11=>intro wq hSw;(go_simp);(try with_reducible rfl)
     refine tkL 3 (v:=?_) rfl (by kernel_rfl) (fun _ _ _ h=>h) (by rfl) ?y1x3q14 (by assumption) ?z1x3q14
     case y1x3q14=>intro wq hSw;(go_simp);(try with_reducible rfl)
     refine tkL 5 (v:=?_) rfl (by kernel_rfl) (fun _ _ _ h=>h) (by rfl) ?y1x5q17 (by assumption) ?z1x5q17
     case y1x5q17=>intro wq hSw;(go_simp);(try with_reducible rfl)
     refine wpAnyL_ready (rs:=[4]) (by kernel_rfl) (by simp) ?_
     refine AllReadyL.cons (o:=⟨_,_,_,_,_,_⟩) rfl (fun K hK=>?_) AllReadyL.nil
     go_simp
     refine (id_t _ _ _ N _ (TH.out.nx hDrew) (HS.out _ (KW.out.nxb hHeld)) (by omega) HI.out).mono ?_
     rintro e wa ⟨r1,rfl,hr1,T,kk⟩
     replace hHeld:=hHeld.nxb kk
     clear kk
     refine hK.out _ _ (hHeld) (fun hHeld=>?_)
     clear hK K
     refine wpAnyL_ready (rs:=[6]) (by kernel_rfl) (by simp) ?_
     refine AllReadyL.cons (o:=⟨_,_,_,_,_,_⟩) rfl (fun K hK=>?_) AllReadyL.nil
     go_simp
     (with_reducible refine (tick_f _ _ _ N _ _ _ F.peers _ _ _ F.msgs r1 hh _ (HS.out _ (KW.out.nxb hHeld)).sl (by omega) hc hm HW.out (FSH.out.nxb hxb hHeld).pl (by omega) FIH.out.sp (FSH.out.nxb hxb hHeld).sl (by omega)).mono ?_)
     rintro e wu ⟨vP,vM,qs,rfl,FO,kk⟩
     obtain ⟨G,hG⟩:∃ G,G=tickF N F r1 hh:=⟨_,rfl⟩
     have HG:=lH hG
     replace FO:FlOwn wa.heap.size wu vP vM qs G:=by rw [hG];exact FO
     have zwa:=hHeld.size
     obtain ⟨aA,cA,aB,cB,rfl,rfl,FSU⟩:=FO.flx (X:=XP X g7 g10) (fun k hk=>by rcases hk with hk | rfl | rfl;have:=hXl k hk;omega;omega;omega)
     replace FSU:=lH FSU
     have TU:=lH (T.nx kk)
     replace hHeld:=hHeld.nxb (kk.b b)
     have B7U:=lH (B7H.out.nxb hb7 hHeld)
     have B10U:=lH (B10H.out.nxb hb10 hHeld)
     have KU:=lH (KW.out.nxb hHeld)
     clear kk FO hG T
     refine hK.out _ _ (hHeld) (fun hHeld=>?_)
     clear hK K
     refine wpAnyL_ready (rs:=[7]) (by kernel_rfl) (by simp) ?_
     refine AllReadyL.consL (o:=⟨_,_,_,_,_,_⟩) rfl (by rfl) (fun K hK=>?_) AllReadyL.nil
     have e0:=B7U.out.cell 0 _ rfl
     have e1:=B7U.out.cell 1 _ rfl
     have fe0:=B7U.out.free 0
     have fe1:=B7U.out.free 1
     go_simp
     clear e0 e1 fe0 fe1
     refine hK.out _ _ ?_
     clear hK K
     refine wpAnyL_done (by kernel_rfl) ?_ _
     obtain ⟨wy,hwy⟩:∃ wy,wy=(wu.setCell ⟨g7,0,none⟩ (.slice aA G.peers.length cA)).setCell ⟨g7,1,none⟩ (.slice aB G.msgs.length cB):=⟨_,rfl⟩
     rw [← hwy]
     have RR:=lH (show FyRel X b g7 g10 n N B w (.int .i64 ((k:Int)+1)) wy from ⟨k+1,aA,cA,aB,cB,G,by omega,by go_num,by rw [hwy];exact (B7U.out.set 0 _).set 1 _,by rw [hwy];exact (FSU.out.set (p:=⟨g7,0,none⟩) _ hx7).set (p:=⟨g7,1,none⟩) _ hx7,by rw [HG.out];exact (FIH.out.tick HNL _ _).more (by omega),by rw [hwy];exact (B10U.out.set_ne (g':=g7) _ h107).set_ne (g':=g7) _ h107,by rw [hwy];exact (TU.out.set (p:=⟨g7,0,none⟩) _ (by show b<g7;omega)).set (p:=⟨g7,1,none⟩) _ (by show b<g7;omega),by rw [hwy];exact (KU.out.setNew (p:=⟨g7,0,none⟩) _ zg7).setNew (p:=⟨g7,1,none⟩) _ zg7⟩)
     clear hwy hHeld hDrew B7U B10U FSU TU KU
     go_wp2_with fail
     exact ⟨RR.out,by simp [intOf];omega⟩
    have n0:(r2==0)=false:=by simpa using t0
    by_cases t1:r2=1
    ·subst t1
     go_upto_region 9 with fail
     refine wp_region_late_drew (S:=Exb b wj) [7] (by kernel_rfl) ((Exb.refl b wj).drew) (fun hHeld=>?_)
     obtain ⟨wd,hwdx⟩:∃ wd:World,wd=World.drew wj:=⟨_,rfl⟩
     rw [← hwdx] at hHeld ⊢
     have hDrew:Ex wj wd:=by rw [hwdx];exact (Ex.refl wj).drew
     clear hwdx
     refine tkL 0 (v:=?_) rfl (by kernel_rfl) (fun _ _ _ h=>h) (by rfl) ?y2x0q5 (by assumption) ?z2x0q5
     case y2x0q5=>intro wq hSw;(go_simp);(try with_reducible rfl)
     refine tkL 1 (v:=?_) rfl (by kernel_rfl) (fun _ _ _ h=>h) (by rfl) ?y2x1q8 (by assumption) ?z2x1q8
     case y2x1q8=>intro wq hSw;(have cq0:=(B7H.out.nxb hb7 hSw).cell 0 _ rfl;have cq1:=(B7H.out.nxb hb7 hSw).cell 1 _ rfl;go_simp);(try with_reducible rfl)
     refine tkL 2 (v:=?_) rfl (by kernel_rfl) (fun _ _ _ h=>h) (by rfl) ?y2x2q11 (by assumption) ?z2x2q11
     case y2x2q11=>intro wq hSw;(go_simp);(try with_reducible rfl)
     refine tkL 3 (v:=?_) rfl (by kernel_rfl) (fun _ _ _ h=>h) (by rfl) ?y2x3q14 (by assumption) ?z2x3q14
     case y2x3q14=>intro wq hSw;(go_simp);(try with_reducible rfl)
     refine tkL 5 (v:=?_) rfl (by kernel_rfl) (fun _ _ _ h=>h) (by rfl) ?y2x5q17 (by assumption) ?z2x5q17
     case y2x5q17=>intro wq hSw;(go_simp);(try with_reducible rfl)
     refine wpAnyL_ready (rs:=[4]) (by kernel_rfl) (by simp) ?_
     refine AllReadyL.cons (o:=⟨_,_,_,_,_,_⟩) rfl (fun K hK=>?_) AllReadyL.nil
     go_simp
     refine (id_t _ _ _ N _ (TH.out.nx hDrew) (HS.out _ (KW.out.nxb hHeld)) (by omega) HI.out).mono ?_
     rintro e wa ⟨r1,rfl,hr1,T,kk⟩
     replace hHeld:=hHeld.nxb kk
     clear kk
     refine hK.out _ _ (hHeld) (fun hHeld=>?_)
     clear hK K
     refine wpAnyL_ready (rs:=[6]) (by kernel_rfl) (by simp) ?_
     refine AllReadyL.cons (o:=⟨_,_,_,_,_,_⟩) rfl (fun K hK=>?_) AllReadyL.nil
     go_simp
     (with_reducible refine (tick_f _ _ _ N _ _ _ F.peers _ _ _ F.msgs r1 hh _ (HS.out _ (KW.out.nxb hHeld)).sl (by omega) hc hm HW.out (FSH.out.nxb hxb hHeld).pl (by omega) FIH.out.sp (FSH.out.nxb hxb hHeld).sl (by omega)).mono ?_)
     rintro e wu ⟨vP,vM,qs,rfl,FO,kk⟩
     obtain ⟨G,hG⟩:∃ G,G=tickF N F r1 hh:=⟨_,rfl⟩
     have HG:=lH hG
     replace FO:FlOwn wa.heap.size wu vP vM qs G:=by rw [hG];exact FO
     have zwa:=hHeld.size
     obtain ⟨aA,cA,aB,cB,rfl,rfl,FSU⟩:=FO.flx (X:=XP X g7 g10) (fun k hk=>by rcases hk with hk | rfl | rfl;have:=hXl k hk;omega;omega;omega)
     replace FSU:=lH FSU
     have TU:=lH (T.nx kk)
     replace hHeld:=hHeld.nxb (kk.b b)
     have B7U:=lH (B7H.out.nxb hb7 hHeld)
     have B10U:=lH (B10H.out.nxb hb10 hHeld)
     have KU:=lH (KW.out.nxb hHeld)
     clear kk FO hG T
     refine hK.out _ _ (hHeld) (fun hHeld=>?_)
     clear hK K
     refine wpAnyL_ready (rs:=[7]) (by kernel_rfl) (by simp) ?_
     refine AllReadyL.consL (o:=⟨_,_,_,_,_,_⟩) rfl (by rfl) (fun K hK=>?_) AllReadyL.nil
     have e0:=B7U.out.cell 0 _ rfl
     have e1:=B7U.out.cell 1 _ rfl
     have fe0:=B7U.out.free 0
     have fe1:=B7U.out.free 1
     go_simp
     clear e0 e1 fe0 fe1
     refine hK.out _ _ ?_
     clear hK K
     refine wpAnyL_done (by kernel_rfl) ?_ _
     obtain ⟨wy,hwy⟩:∃ wy,wy=(wu.setCell ⟨g7,0,none⟩ (.slice aA G.peers.length cA)).setCell ⟨g7,1,none⟩ (.slice aB G.msgs.length cB):=⟨_,rfl⟩
     rw [← hwy]
     have RR:=lH (show FyRel X b g7 g10 n N B w (.int .i64 ((k:Int)+1)) wy from ⟨k+1,aA,cA,aB,cB,G,by omega,by go_num,by rw [hwy];exact (B7U.out.set 0 _).set 1 _,by rw [hwy];exact (FSU.out.set (p:=⟨g7,0,none⟩) _ hx7).set (p:=⟨g7,1,none⟩) _ hx7,by rw [HG.out];exact (FIH.out.tick HNL _ _).more (by omega),by rw [hwy];exact (B10U.out.set_ne (g':=g7) _ h107).set_ne (g':=g7) _ h107,by rw [hwy];exact (TU.out.set (p:=⟨g7,0,none⟩) _ (by show b<g7;omega)).set (p:=⟨g7,1,none⟩) _ (by show b<g7;omega),by rw [hwy];exact (KU.out.setNew (p:=⟨g7,0,none⟩) _ zg7).setNew (p:=⟨g7,1,none⟩) _ zg7⟩)
     clear hwy hHeld hDrew B7U B10U FSU TU KU
     go_wp2_with fail
     exact ⟨RR.out,by simp [intOf];omega⟩
    have n1:(r2==1)=false:=by simpa using t1
    by_cases t2:r2=2
    ·subst t2
     have c1:=B7H.out.cell 1 _ rfl
     by_cases hcap:F.msgs.length<60
     ·have d1:(F.msgs.length:Int)<60:=by omega
      go_upto_region 12 with fail
      clear c1
      have cq0:=B7H.out.cell 0 _ rfl
      have cq1:=B7H.out.cell 1 _ rfl
      go_wp2_with fail
      (with_reducible refine (dbl_f _ _ _ F.peers _ _ _ F.msgs r0 _ FSH.out.pl (by omega) FIH.out.sp FSH.out.sl (by omega)).mono ?_)
      rintro e wu ⟨vP,vM,qs,rfl,FO,kk⟩
      clear cq0 cq1
      obtain ⟨G,hG⟩:∃ G,G=dblF F r0 4096:=⟨_,rfl⟩
      have HG:=lH hG
      replace FO:FlOwn wj.heap.size wu vP vM qs G:=by rw [hG];exact FO
      obtain ⟨aA,cA,aB,cB,rfl,rfl,FSU⟩:=FO.flx (X:=XP X g7 g10) (fun k hk=>by rcases hk with hk | rfl | rfl;have:=hXl k hk;omega;omega;omega)
      replace FSU:=lH FSU
      have B7U:=lH (B7H.out.nx kk)
      have B10U:=lH (B10H.out.nx kk)
      have TU:=lH (TH.out.nx kk)
      have KU:=lH (KW.out.nxb (kk.b b))
      have e0:=B7U.out.cell 0 _ rfl
      have e1:=B7U.out.cell 1 _ rfl
      have fe0:=B7U.out.free 0
      have fe1:=B7U.out.free 1
      clear kk FO hG
      go_wp2_with fail
      obtain ⟨wy,hwy⟩:∃ wy,wy=(wu.setCell ⟨g7,0,none⟩ (.slice aA G.peers.length cA)).setCell ⟨g7,1,none⟩ (.slice aB G.msgs.length cB):=⟨_,rfl⟩
      rw [← hwy]
      have RR:=lH (show FyRel X b g7 g10 n N B w (.int .i64 ((k:Int)+1)) wy from ⟨k+1,aA,cA,aB,cB,G,by omega,by go_num,by rw [hwy];exact (B7U.out.set 0 _).set 1 _,by rw [hwy];exact (FSU.out.set (p:=⟨g7,0,none⟩) _ hx7).set (p:=⟨g7,1,none⟩) _ hx7,by rw [HG.out];exact (FIH.out.dbl _ _).more (by omega),by rw [hwy];exact (B10U.out.set_ne (g':=g7) _ h107).set_ne (g':=g7) _ h107,by rw [hwy];exact (TU.out.set (p:=⟨g7,0,none⟩) _ (by show b<g7;omega)).set (p:=⟨g7,1,none⟩) _ (by show b<g7;omega),by rw [hwy];exact (KU.out.setNew (p:=⟨g7,0,none⟩) _ zg7).setNew (p:=⟨g7,1,none⟩) _ zg7⟩)
      clear hwy e0 e1 fe0 fe1 B7U B10U FSU TU KU
      go_wp2_with fail
      exact ⟨RR.out,by simp [intOf];omega⟩
     ·have d1:¬ (F.msgs.length:Int)<60:=by omega
      have RR:=lH (show FyRel X b g7 g10 n N B w (.int .i64 ((k:Int)+1)) wj from ⟨k+1,aQ,cQ,aR,cR,F,by omega,by go_num,B7H.out,FSH.out,FIH.out.more (by omega),B10H.out,TH.out,KW.out⟩)
      go_wp2_with fail
      exact ⟨RR.out,by simp [intOf];omega⟩
    have n2:(r2==2)=false:=by simpa using t2
    go_upto_region 6 with fail
    have cq0:=B7H.out.cell 0 _ rfl
    have cq1:=B7H.out.cell 1 _ rfl
    go_wp2_with fail
    (with_reducible refine (del_f _ _ _ N _ _ _ F.peers _ _ _ F.msgs r0 _ (HS.out _ KW.out).sl (by omega) hc hm FSH.out.pl (by omega) FIH.out.sp FSH.out.sl (by omega) FIH.out.sk).mono ?_)
    rintro e wu ⟨vP,vM,qs,rfl,FO,kk⟩
    clear cq0 cq1
    obtain ⟨G,hG⟩:∃ G,G=delF N F r0:=⟨_,rfl⟩
    have HG:=lH hG
    replace FO:FlOwn wj.heap.size wu vP vM qs G:=by rw [hG];exact FO
    obtain ⟨aA,cA,aB,cB,rfl,rfl,FSU⟩:=FO.flx (X:=XP X g7 g10) (fun k hk=>by rcases hk with hk | rfl | rfl;have:=hXl k hk;omega;omega;omega)
    replace FSU:=lH FSU
    have B7U:=lH (B7H.out.nx kk)
    have B10U:=lH (B10H.out.nx kk)
    have TU:=lH (TH.out.nx kk)
    have KU:=lH (KW.out.nxb (kk.b b))
    have e0:=B7U.out.cell 0 _ rfl
    have e1:=B7U.out.cell 1 _ rfl
    have fe0:=B7U.out.free 0
    have fe1:=B7U.out.free 1
    clear kk FO hG
    go_wp2_with fail
    obtain ⟨wy,hwy⟩:∃ wy,wy=(wu.setCell ⟨g7,0,none⟩ (.slice aA G.peers.length cA)).setCell ⟨g7,1,none⟩ (.slice aB G.msgs.length cB):=⟨_,rfl⟩
    rw [← hwy]
    have RR:=lH (show FyRel X b g7 g10 n N B w (.int .i64 ((k:Int)+1)) wy from ⟨k+1,aA,cA,aB,cB,G,by omega,by go_num,by rw [hwy];exact (B7U.out.set 0 _).set 1 _,by rw [hwy];exact (FSU.out.set (p:=⟨g7,0,none⟩) _ hx7).set (p:=⟨g7,1,none⟩) _ hx7,by rw [HG.out];exact (FIH.out.del HNL _).more (by omega),by rw [hwy];exact (B10U.out.set_ne (g':=g7) _ h107).set_ne (g':=g7) _ h107,by rw [hwy];exact (TU.out.set (p:=⟨g7,0,none⟩) _ (by show b<g7;omega)).set (p:=⟨g7,1,none⟩) _ (by show b<g7;omega),by rw [hwy];exact (KU.out.setNew (p:=⟨g7,0,none⟩) _ zg7).setNew (p:=⟨g7,1,none⟩) _ zg7⟩)
    clear hwy e0 e1 fe0 fe1 B7U B10U FSU TU KU
    go_wp2_with fail
    exact ⟨RR.out,by simp [intOf];omega⟩
  ·obtain ⟨wj,rfl⟩:∃ wj:World,wj=wi:=⟨_,rfl⟩
   have r0:=B7H.out.cell 0 _ rfl
   have r1:=B7H.out.cell 1 _ rfl
   have p0:=B10H.out.cell 0 _ rfl
   have p1:=B10H.out.cell 1 _ rfl
   have f0:=B10H.out.free 0
   have f1:=B10H.out.free 1
   go_wp2_with fail
   obtain ⟨wz,hwz⟩:∃ wz,wz=(wj.setCell ⟨g10,0,none⟩ (.slice aQ F.peers.length cQ)).setCell ⟨g10,1,none⟩ (.slice aR F.msgs.length cR):=⟨_,rfl⟩
   have BZ:Blk wz g10 [.slice aQ F.peers.length cQ,.slice aR F.msgs.length cR] 27:=by rw [hwz];exact (B10H.out.set 0 _).set 1 _
   have KE:Exb b w wz:=by rw [hwz];exact (KW.out.setNew (p:=⟨g10,0,none⟩) _ zg10).setNew (p:=⟨g10,1,none⟩) _ zg10
   have TE:TK wz b:=by rw [hwz];exact (TH.out.set (p:=⟨g10,0,none⟩) _ (by show b<g10;omega)).set (p:=⟨g10,1,none⟩) _ (by show b<g10;omega)
   have FF:=lH (show FlX X wz aQ aR F from by rw [hwz];exact ((FSH.out.set (p:=⟨g10,0,none⟩) _ hx10).set (p:=⟨g10,1,none⟩) _ hx10).mono (fun k _ e=>.inl e))
   rw [← hwz]
   have s0:=BZ.cell 0 _ rfl
   have s1:=BZ.cell 1 _ rfl
   clear r0 r1 f0 f1 p0 p1 hwz
   refine bodyPost_ret (v:=.agg #[.slice aQ F.peers.length cQ,.slice aR F.msgs.length cR]) (by simp [results,Tryz.results27,go_sem, *]) rfl ⟨aQ,cQ,aR,cR,F,rfl,FF.out,FIH.out.more (by omega),TE,KE⟩
end Go.Proofs.YthdkeibapcaclaaGreatDoor
