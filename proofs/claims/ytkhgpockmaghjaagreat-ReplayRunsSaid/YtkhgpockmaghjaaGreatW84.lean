/- Contracts and laws in plain Lean for RApp: group W84. -/
import Derived.Test.YtkhgpockmaghjaaGreatW83
import Derived.Test.YtkhgpockmaghjaaGreatW20
import Derived.Test.YtkhgpockmaghjaaGreatW38
import Derived.Test.YtkhgpockmaghjaaGreatW65
set_option maxRecDepth 100000
namespace Go.Proofs.YtkhgpockmaghjaaGreat
open Go.RowKit Go.Shelf
attribute [local go_sem] Oper.semAt_some
noncomputable def Tr.mayB (T:Tr) (c:Nat→Nat) (p:Nat):Bool:=decide (c p<T.en p) && (decide (T.kind p (c p)≠3) || decide ((T.sndN (p,c p)).2<c (T.sndN (p,c p)).1))
set_option maxHeartbeats 2000000 in
theorem rmay_any (w : World) (T : Tr) (hV : T.Valid) (sb : Nat) (hS : Spc T sb w) (g o cap : Nat) (c : Nat → Nat) (h : NumAt w T.n (some ⟨g, o, none⟩) g o (natV c)) (hc : ∀ q, q < T.n → c q ≤ T.en q) (p : Nat) (hp : p < T.n) :
    Calls Tryz.prog 121 #[.pointer (some ⟨sb,0,none⟩),.slice (some ⟨g,o,none⟩) T.n cap,.int .i64 (p:Nat)] w fun e w'=>e=.returned (.bool (T.mayB c p))∧Ext w w':=by
 obtain ⟨x0,ng,no,nc,rs,hb,hng,hr,hrow⟩:=hS.ex
 obtain ⟨lb,cb,_,_⟩:=hb.box
 have p0:∀ w',Ext w w'→w'.cell? ⟨ng,no+p,none⟩=some (.slice (rs p).a (T.en p) (rs p).c):=fun w' x=>x.cell (hr p hp)
 have gl:∀ w',Ext w w'→ng<w'.heap.size:=fun w' x=>Nat.lt_of_lt_of_le hng x.le
 obtain ⟨cp,hcp⟩:∃ z,z=c p:=⟨_,rfl⟩
 have c0:∀ w',Ext w w'→w'.cell? ⟨g,o+p,none⟩=some (.int .i64 (cp:Nat)):=fun w' x=>by rw [hcp];exact x.cell (h.c p hp)
 have cl:∀ w',Ext w w'→g<w'.heap.size:=fun w' x=>Nat.lt_of_lt_of_le (h.pb (by omega)) x.le
 have hpn':(p:Int)<(T.n:Int):=by omega
 have d0:decide ((p:Int)<0)=false:=decide_eq_false (by omega)
 have d1:decide ((T.n:Int)≤(p:Int))=false:=decide_eq_false (by omega)
 have d1':decide (T.n≤p)=false:=decide_eq_false (by omega)
 have hg0:∀ d os,Ext w (Sort.grow (redrawn w d) os):=fun d os=>below_regrown w d os
 have hww:Ext w w:=Ext.refl _
 have hce:=hc p hp
 have HR:=Lib.hid hrow
 have HC:=Lib.hid hc
 have HH:=Lib.hid h
 have HV:=Lib.hid hV
 have HCP:=Lib.hid hcp
 clear hS hb hng hr hrow h hV hc
 obtain ⟨ep,hep⟩:∃ z,z=T.en p:=⟨_,rfl⟩
 have HEP:=Lib.hid hep
 rw [←hep] at p0
 have hcpe:cp≤ep:=by rw [hcp,hep];exact hce
 unfold Tr.mayB
 rw [←hcp,←hep]
 clear hcp hep hce
 go_enter Tryz.func121,Tryz.ntmps121
 by_cases hlt:cp<ep
 case neg=>
  have d2:decide ((ep:Int)≤(cp:Int))=true:=decide_eq_true (by omega)
  have d2':decide (ep≤cp)=true:=decide_eq_true (by omega)
  have HE:=Lib.hid (show decide (cp<ep)=false from decide_eq_false hlt)
  go_upto_region 1 with fail
  refine wp_region_quiet_below (by kernel_rfl) (by kernel_rfl) ?_
  repeat (go_big_quiet_step (fail))
  refine wpQuiet_nil ?_
  intro _ hw'
  obtain ⟨⟨dq,osq⟩,hw''⟩:=hw'
  subst hw''
  have hx1:=hg0 dq osq
  generalize Sort.grow (redrawn w dq) osq=w1 at hx1 ⊢
  go_wp2_with fail
  go_ret
  exact ⟨by rw [HE.out];rfl,hx1⟩
 have d2:decide ((ep:Int)≤(cp:Int))=false:=decide_eq_false (by omega)
 have d2':decide (ep≤cp)=false:=decide_eq_false (by omega)
 have hlt':(cp:Int)<(ep:Int):=by omega
 have HE:=Lib.hid (show decide (cp<ep)=true from decide_eq_true hlt)
 have hcT:cp<T.en p:=by rw [←HEP.out];exact hlt
 have hrw:=HR.out p hp
 obtain ⟨s,hs⟩:∃ z,z=rs p:=⟨_,rfl⟩
 rw [←hs] at p0 hrw
 obtain ⟨sa,sn,sc,sb',so⟩:=s
 simp only at p0
 obtain ⟨hrM,hrn⟩:=hrw
 simp only at hrn
 subst hrn
 have hsa:sa=some ⟨sb',so,none⟩:=hrM.ha (by show 0<T.en p;omega)
 subst hsa
 have nl:∀ w',Ext w w'→sb'<w'.heap.size:=fun w' x=>Nat.lt_of_lt_of_le (hrM.hb (by show 0<T.en p;omega)) x.le
 obtain ⟨n0,n1,hn,hkd⟩:∃ n0 n1:Int,T.ndC p cp=[.int .i64 n0,.int .i64 n1]∧((T.kind p cp=3∧n0=((T.sndN (p,cp)).1:Nat)∧n1=((T.sndN (p,cp)).2:Int)+1)∨(T.kind p cp≠3∧n0=0∧n1=0)):=by
  unfold Tr.ndC
  by_cases h3:T.kind p cp=3
  ·exact ⟨_,_,if_pos h3,.inl ⟨h3,rfl,rfl⟩⟩
  ·exact ⟨_,_,if_neg h3,.inr ⟨h3,rfl,rfl⟩⟩
 have e0:∀ w',Ext w w'→w'.cell? ⟨sb',so+cp*2,none⟩=some (.int .i64 n0):=fun w' x=>(hrM.ext x).flat (f:=T.ndC p) (l:=List.range (T.en p)) (r:=0) (ndC_len T p) (range_get' hcT) (by rw [hn];rfl)
 have e1:∀ w',Ext w w'→w'.cell? ⟨sb',so+cp*2+1,none⟩=some (.int .i64 n1):=fun w' x=>(hrM.ext x).flat (f:=T.ndC p) (l:=List.range (T.en p)) (r:=1) (ndC_len T p) (range_get' hcT) (by rw [hn];rfl)
 clear hn hrM hs
 go_upto_region 1 with fail
 refine wp_region_quiet_below (by kernel_rfl) (by kernel_rfl) ?_
 repeat (go_big_quiet_step (fail))
 refine wpQuiet_nil ?_
 intro _ hw'
 obtain ⟨⟨dq,osq⟩,hw''⟩:=hw'
 subst hw''
 have hx1:=hg0 dq osq
 generalize Sort.grow (redrawn w dq) osq=w1 at hx1 ⊢
 have h11:Ext w1 w1:=Ext.refl _
 go_upto_region 3 with fail
 go_cut [7] (fun s7 wx=>∃ b7:Nat,s7=.pointer (some ⟨b7,0,none⟩)∧Hold wx b7 #[.int .i64 n0,.int .i64 n1]∧Ext w1 wx)
 case first=>
  refine wp_region_T (t:=14) (S:=fun _=>True) (R:=fun w'=>Ext w1 w') (by kernel_rfl) trivial (Ext.refl w1).drew (fun hHeld=>?_)
  refine takeU 0 (v:=?_) rfl (by kernel_rfl) (by kernel_rfl) (by kernel_rfl) (by kernel_rfl) (by kernel_rfl) (fun _ _ _ h=>h) (by decide) (Or.inl ⟨by rfl,?_⟩) hHeld.1 hHeld.2 ?_
  rotate_left
  ·intro w' hSw
   have hSX:=hx1.trans hSw.2
   (try dsimp only at hSX)
   have hSS:=Ext.refl w'
   go_simp
   try with_reducible rfl
  try simp only [Act.put,zA,zB,zC]
  refine takeU 1 (v:=?_) rfl (by kernel_rfl) (by kernel_rfl) (by kernel_rfl) (by kernel_rfl) (by kernel_rfl) (fun _ _ _ h=>h) (by decide) (Or.inl ⟨by rfl,?_⟩) hHeld.1 hHeld.2 ?_
  rotate_left
  ·intro w' hSw
   have hSX:=hx1.trans hSw.2
   (try dsimp only at hSX)
   have hSS:=Ext.refl w'
   go_simp
   try with_reducible rfl
  try simp only [Act.put,zA,zB,zC]
  refine takeU 2 (v:=?_) rfl (by kernel_rfl) (by kernel_rfl) (by kernel_rfl) (by kernel_rfl) (by kernel_rfl) (fun _ _ _ h=>h) (by decide) (Or.inl ⟨by rfl,?_⟩) hHeld.1 hHeld.2 ?_
  rotate_left
  ·intro w' hSw
   have hSX:=hx1.trans hSw.2
   (try dsimp only at hSX)
   have hSS:=Ext.refl w'
   go_simp
   try with_reducible rfl
  try simp only [Act.put,zA,zB,zC]
  refine takeU 3 (v:=?_) rfl (by kernel_rfl) (by kernel_rfl) (by kernel_rfl) (by kernel_rfl) (by kernel_rfl) (fun _ _ _ h=>h) (by decide) (Or.inl ⟨by rfl,?_⟩) hHeld.1 hHeld.2 ?_
  rotate_left
  ·intro w' hSw
   have hSX:=hx1.trans hSw.2
   (try dsimp only at hSX)
   have hSS:=Ext.refl w'
   go_simp
   try with_reducible rfl
  try simp only [Act.put,zA,zB,zC]
  refine takeU 4 (v:=?_) rfl (by kernel_rfl) (by kernel_rfl) (by kernel_rfl) (by kernel_rfl) (by kernel_rfl) (fun _ _ _ h=>h) (by decide) (Or.inl ⟨by rfl,?_⟩) hHeld.1 hHeld.2 ?_
  rotate_left
  ·intro w' hSw
   have hSX:=hx1.trans hSw.2
   (try dsimp only at hSX)
   have hSS:=Ext.refl w'
   go_simp
   try with_reducible rfl
  try simp only [Act.put,zA,zB,zC]
  refine takeU 5 (v:=?_) rfl (by kernel_rfl) (by kernel_rfl) (by kernel_rfl) (by kernel_rfl) (by kernel_rfl) (fun _ _ _ h=>h) (by decide) (Or.inl ⟨by rfl,?_⟩) hHeld.1 hHeld.2 ?_
  rotate_left
  ·intro w' hSw
   have hSX:=hx1.trans hSw.2
   (try dsimp only at hSX)
   have hSS:=Ext.refl w'
   go_simp
   try with_reducible rfl
  try simp only [Act.put,zA,zB,zC]
  refine takeU 6 (v:=?_) rfl (by kernel_rfl) (by kernel_rfl) (by kernel_rfl) (by kernel_rfl) (by kernel_rfl) (fun _ _ _ h=>h) (by decide) (Or.inl ⟨by rfl,?_⟩) hHeld.1 hHeld.2 ?_
  rotate_left
  ·intro w' hSw
   have hSX:=hx1.trans hSw.2
   (try dsimp only at hSX)
   have hSS:=Ext.refl w'
   go_simp
   try with_reducible rfl
  try simp only [Act.put,zA,zB,zC]
  refine takeU 7 (v:=?_) rfl (by kernel_rfl) (by kernel_rfl) (by kernel_rfl) (by kernel_rfl) (by kernel_rfl) (fun _ _ _ h=>h) (by decide) (Or.inl ⟨by rfl,?_⟩) hHeld.1 hHeld.2 ?_
  rotate_left
  ·intro w' hSw
   have hSX:=hx1.trans hSw.2
   (try dsimp only at hSX)
   have hSS:=Ext.refl w'
   go_simp
   try with_reducible rfl
  try simp only [Act.put,zA,zB,zC]
  refine takeU 8 (v:=?_) rfl (by kernel_rfl) (by kernel_rfl) (by kernel_rfl) (by kernel_rfl) (by kernel_rfl) (fun _ _ _ h=>h) (by decide) (Or.inl ⟨by rfl,?_⟩) hHeld.1 hHeld.2 ?_
  rotate_left
  ·intro w' hSw
   have hSX:=hx1.trans hSw.2
   (try dsimp only at hSX)
   have hSS:=Ext.refl w'
   go_simp
   try with_reducible rfl
  try simp only [Act.put,zA,zB,zC]
  refine takeU 9 (v:=?_) rfl (by kernel_rfl) (by kernel_rfl) (by kernel_rfl) (by kernel_rfl) (by kernel_rfl) (fun _ _ _ h=>h) (by decide) (Or.inl ⟨by rfl,?_⟩) hHeld.1 hHeld.2 ?_
  rotate_left
  ·intro w' hSw
   have hSX:=hx1.trans hSw.2
   (try dsimp only at hSX)
   have hSS:=Ext.refl w'
   go_simp
   try with_reducible rfl
  try simp only [Act.put,zA,zB,zC]
  refine takeU 10 (v:=?_) rfl (by kernel_rfl) (by kernel_rfl) (by kernel_rfl) (by kernel_rfl) (by kernel_rfl) (fun _ _ _ h=>h) (by decide) (Or.inl ⟨by rfl,?_⟩) hHeld.1 hHeld.2 ?_
  rotate_left
  ·intro w' hSw
   have hSX:=hx1.trans hSw.2
   (try dsimp only at hSX)
   have hSS:=Ext.refl w'
   go_simp
   try with_reducible rfl
  try simp only [Act.put,zA,zB,zC]
  refine takeU 11 (v:=?_) rfl (by kernel_rfl) (by kernel_rfl) (by kernel_rfl) (by kernel_rfl) (by kernel_rfl) (fun _ _ _ h=>h) (by decide) (Or.inl ⟨by rfl,?_⟩) hHeld.1 hHeld.2 ?_
  rotate_left
  ·intro w' hSw
   have hSX:=hx1.trans hSw.2
   (try dsimp only at hSX)
   have hSS:=Ext.refl w'
   go_simp
   try with_reducible rfl
  try simp only [Act.put,zA,zB,zC]
  refine takeU 12 (v:=?_) rfl (by kernel_rfl) (by kernel_rfl) (by kernel_rfl) (by kernel_rfl) (by kernel_rfl) (fun _ _ _ h=>h) (by decide) (Or.inl ⟨by rfl,?_⟩) hHeld.1 hHeld.2 ?_
  rotate_left
  ·intro w' hSw
   have hSX:=hx1.trans hSw.2
   (try dsimp only at hSX)
   have hSS:=Ext.refl w'
   go_simp
   try with_reducible rfl
  try simp only [Act.put,zA,zB,zC]
  have hA0:Ext w1 w1.drew:=(Ext.refl w1).drew
  generalize w1.drew=w0 at hA0 hHeld ⊢
  refine wpAnyT_ready (rs:=[13]) (by kernel_rfl) (by simp) ?_
  refine AllReadyT.cons rfl (fun K hK=>?_) AllReadyT.nil
  go_simp
  have hxa:=hA0.alloc' (.cells #[.int .i64 0,.int .i64 0] 79)
  have hNW:=Hold.new w0 #[.int .i64 0,.int .i64 0] 79
  refine hK.out _ _ ⟨trivial,hxa⟩ (fun hHeld2=>?_)
  clear hK K
  try simp only [Act.put,zA,zB,zC]
  clear hHeld hHeld2
  obtain ⟨l9,c9,f9,_⟩:=hNW.box
  have h99:=Ext.refl (w0.alloc (.cells #[.int .i64 0,.int .i64 0] 79))
  have hle0:=hA0.le
  refine wpAnyT_ready (rs:=[14]) (by kernel_rfl) (by simp) ?_
  refine AllReadyT.late rfl (by decide) (fun K hK=>?_) AllReadyT.nil
  go_simp
  refine hK.out _ _ trivial (fun hHeld3=>?_)
  clear hK K
  have HA0:=Lib.hid hA0
  clear l9 c9 f9 h99 hHeld3 hNW hxa hle0
  refine wpAnyT_done (by kernel_rfl) ?_ _
  go_wp2_with fail
  go_meet
  exact ⟨_,rfl,Hold.new w0 _ _,HA0.out.alloc' _⟩
 case rest=>
  obtain ⟨b7,rfl,hN,hxc⟩:=hcut
  obtain ⟨l7,c7,_,_⟩:=hN.box
  have hxwc:=hx1.trans hxc
  have hgc:∀ d os,Ext wc (Sort.grow (redrawn wc d) os):=fun d os=>below_regrown wc d os
  have hgw:∀ d os,Ext w (Sort.grow (redrawn wc d) os):=fun d os=>hxwc.trans (below_regrown wc d os)
  clear e0 e1 nl p0 gl
  rcases hkd with ⟨k3,rfl,rfl⟩ | ⟨k3,rfl,rfl⟩
  ·have hsV:=Tr.sndN_V (T:=T) (y:=(p,cp)) ⟨hp,hcT⟩
   obtain ⟨⟨q,j⟩,hqj⟩:∃ z,z=T.sndN (p,cp):=⟨_,rfl⟩
   have HQJ:=Lib.hid hqj
   rw [←hqj] at hsV c7 hN
   simp only at c7 hN
   have hqn:q<T.n:=hsV.1
   have hqn':(q:Int)<(T.n:Int):=by omega
   obtain ⟨cq,hcq⟩:∃ z,z=c q:=⟨_,rfl⟩
   have cq0:∀ w',Ext w w'→w'.cell? ⟨g,o+q,none⟩=some (.int .i64 (cq:Nat)):=fun w' x=>by rw [hcq];exact x.cell (HH.out.c q hqn)
   have d3:(((j:Int)+1) == 0)=false:=by rw [beq_eq_false_iff_ne];omega
   have HK:=Lib.hid (show decide (T.kind p cp≠3)=false from decide_eq_false (fun h=>h k3))
   have HCQ:=Lib.hid hcq
   clear hcq hqj hsV k3 hN
   obtain ⟨bv,hbv⟩:∃ bv,bv=decide (j<cq):=⟨_,rfl⟩
   have HBV:=Lib.hid hbv
   have d4:decide (((j:Int)+1)≤(cq:Int))=bv:=by rw [hbv];exact decide_eq_decide.2 (by omega)
   have d4':decide (j+1≤cq)=bv:=by rw [hbv];exact decide_eq_decide.2 (by omega)
   have d4'':decide (j<cq)=bv:=hbv.symm
   clear hbv
   go_upto_region 4 with fail
   refine wp_region_quiet_below (by kernel_rfl) (by kernel_rfl) ?_
   repeat (go_big_quiet_step (fail))
   refine wpQuiet_nil ?_
   intro _ hw'
   obtain ⟨⟨dq,osq⟩,hw''⟩:=hw'
   subst hw''
   have hxw5:=hgw dq osq
   clear hgw hgc
   generalize Sort.grow (redrawn wc dq) osq=w5 at hxw5 ⊢
   go_wp2_with fail
   go_ret
   exact ⟨by
    rw [HE.out,HK.out,←HQJ.out]
    show _=Ending.returned (.bool (true && (false || decide (j<c q))))
    rw [←HCQ.out,←HBV.out];simp,hxw5⟩
  ·have HK:=Lib.hid (show decide (T.kind p cp≠3)=true from decide_eq_true k3)
   clear k3 hN
   go_upto_region 4 with fail
   refine wp_region_quiet_below (by kernel_rfl) (by kernel_rfl) ?_
   repeat (go_big_quiet_step (fail))
   refine wpQuiet_nil ?_
   intro _ hw'
   obtain ⟨⟨dq,osq⟩,hw''⟩:=hw'
   subst hw''
   have hxw5:=hgw dq osq
   clear hgw hgc
   generalize Sort.grow (redrawn wc dq) osq=w5 at hxw5 ⊢
   go_wp2_with fail
   go_ret
   exact ⟨by rw [HE.out,HK.out];simp,hxw5⟩
end Go.Proofs.YtkhgpockmaghjaaGreat

namespace Go.Proofs.YtkhgpockmaghjaaGreat
open Go.RowKit Go.Shelf
attribute [local go_sem] Oper.semAt_some
open Classical in
noncomputable def eqUp (n:Nat) (e d:Nat→Nat) (p:Nat):Bool:=decide (EqL n n (natV e) (natV (upC d p)))
open Classical in
theorem eqUp_iff {n:Nat} {e d:Nat→Nat} {p:Nat}:eqUp n e d p=true↔EqL n n (natV e) (natV (upC d p)):=by
 unfold eqUp;exact decide_eq_true_iff
set_option maxHeartbeats 2000000 in
theorem rsteps1 (w : World) (T : Tr) (hV : T.Valid) (sb : Nat) (hS : Spc T sb w) (bS bR bI bC rg ro rn rc i g o cc g2 o2 c2 : Nat) (d e : Nat → Nat)
    (hbS:Hold w bS #[.pointer (some ⟨sb,0,none⟩)]) (hbR:Hold w bR #[.slice (some ⟨rg,ro,none⟩) rn rc]) (hbI:Hold w bI #[.int .i64 (i:Nat)]) (hbC:Hold w bC #[.slice (some ⟨g2,o2,none⟩) T.n c2])
    (hi:i<rn) (hrg:rg<w.heap.size) (hr:w.cell? ⟨rg,ro+i,none⟩=some (.slice (some ⟨g,o,none⟩) T.n cc)) (hd:NumAt w T.n (some ⟨g,o,none⟩) g o (natV d)) (he:NumAt w T.n (some ⟨g2,o2,none⟩) g2 o2 (natV e)) (hc:∀ q,q<T.n→d q≤T.en q) (p:Nat) (hp:p<T.n) :
    Calls Tryz.prog 120 #[.int .i64 (p:Nat),.pointer (some ⟨bS,0,none⟩),.pointer (some ⟨bR,0,none⟩),.pointer (some ⟨bI,0,none⟩),.pointer (some ⟨bC,0,none⟩)] w fun e' w'=>e'=.returned (.bool (T.mayB d p && eqUp T.n e d p))∧Ext w w':=by
 have hmay:=fun W (x:Ext w W)=>rmay_any W T hV sb (hS.ext x) g o cc d (hd.ext x) hc p hp
 have hnx:=fun W (x:Ext w W)=>rnextc_any W g o T.n cc d (hd.ext x) p hp (by have:=hV.n8;omega) (by have:=hc p hp;have:=hV.en64 hp;omega)
 have hii:(i:Int)<(rn:Int):=by omega
 obtain ⟨lS,cS,_,_⟩:=hbS.box
 obtain ⟨lR,cR,_,_⟩:=hbR.box
 obtain ⟨lI,cI,_,_⟩:=hbI.box
 obtain ⟨lC,cC,_,_⟩:=hbC.box
 have r0:∀ w',Ext w w'→w'.cell? ⟨rg,ro+i,none⟩=some (.slice (some ⟨g,o,none⟩) T.n cc):=fun w' x=>x.cell hr
 have rl:∀ w',Ext w w'→rg<w'.heap.size:=fun w' x=>Nat.lt_of_lt_of_le hrg x.le
 have HE:=Lib.hid he
 have hww:Ext w w:=Ext.refl _
 obtain ⟨bm,hbm⟩:∃ z,z=T.mayB d p:=⟨_,rfl⟩
 have HBM:=Lib.hid hbm
 have HM:=Lib.hid hmay
 have HX:=Lib.hid hnx
 clear hS hbS hbR hbI hbC hrg hr hd he hc hbm hmay hnx
 go_enter Tryz.func120,Tryz.ntmps120
 go_upto_region 1 with fail
 refine wp_region_held_drew (S:=fun w'=>Ext w w') (by kernel_rfl) (Ext.refl _).drew (fun hHeld=>?_)
 refine hQ 0 (v:=?_) rfl (y:=.inl ⟨by rfl,?_⟩) (h:=?_)
 rotate_left
 ·(intro w' hSw;(try dsimp only at hSw);have hSS:=Ext.refl w';skip;go_simp;try with_reducible rfl)
 try simp only [Act.put,zA,zB,zC]
 refine hQ 1 (v:=?_) rfl (y:=.inl ⟨by rfl,?_⟩) (h:=?_)
 rotate_left
 ·(intro w' hSw;(try dsimp only at hSw);have hSS:=Ext.refl w';skip;go_simp;try with_reducible rfl)
 try simp only [Act.put,zA,zB,zC]
 refine hQ 2 (v:=?_) rfl (y:=.inl ⟨by rfl,?_⟩) (h:=?_)
 rotate_left
 ·(intro w' hSw;(try dsimp only at hSw);have hSS:=Ext.refl w';skip;go_simp;try with_reducible rfl)
 try simp only [Act.put,zA,zB,zC]
 refine hQ 3 (v:=?_) rfl (y:=.inl ⟨by rfl,?_⟩) (h:=?_)
 rotate_left
 ·(intro w' hSw;(try dsimp only at hSw);have hSS:=Ext.refl w';skip;go_simp;try with_reducible rfl)
 try simp only [Act.put,zA,zB,zC]
 refine hQ 4 (v:=?_) rfl (y:=.inl ⟨by rfl,?_⟩) (h:=?_)
 rotate_left
 ·(intro w' hSw;(try dsimp only at hSw);have hSS:=Ext.refl w';skip;go_simp;try with_reducible rfl)
 try simp only [Act.put,zA,zB,zC]
 refine hQ 5 (v:=?_) rfl (y:=.inl ⟨by rfl,?_⟩) (h:=?_)
 rotate_left
 ·(intro w' hSw;(try dsimp only at hSw);have hSS:=Ext.refl w';skip;go_simp;try with_reducible rfl)
 try simp only [Act.put,zA,zB,zC]
 have hA:Ext w w.drew:=(Ext.refl w).drew
 have hm:=HM.out w.drew hA
 rw [←HBM.out] at hm
 refine wpAnyH_ready (rs:=[6]) (by kernel_rfl) (by simp) ?_
 refine AllReadyH.cons rfl (fun K hK=>?_) AllReadyH.nil
 go_simp
 go_at_call 121
 refine hm.mono ?_
 rintro e' w2 ⟨rfl,hx2⟩
 have hxw2:=hA.trans hx2
 refine hK.out _ _ hxw2 (fun hHeld2=>?_)
 clear hK K
 try simp only [Act.put,zA,zB,zC]
 clear hHeld hm
 have hHeld:=hHeld2
 clear hHeld2
 refine hQ 7 (v:=?_) rfl (y:=.inl ⟨by rfl,?_⟩) (h:=?_)
 rotate_left
 ·(intro w' hSw;(try dsimp only at hSw);have hSS:=Ext.refl w';skip;go_simp;try with_reducible rfl)
 try simp only [Act.put,zA,zB,zC]
 cases bm with
 | false =>
  refine heldTake 8 (v:=undef) rfl (by kernel_rfl) (by kernel_rfl) (by kernel_rfl) (fun _ _ _ h=>h) (Or.inr ⟨by rfl,rfl⟩) (by assumption) ?_
  try simp only [Act.put,zA,zB,zC]
  refine heldTake 9 (v:=undef) rfl (by kernel_rfl) (by kernel_rfl) (by kernel_rfl) (fun _ _ _ h=>h) (Or.inr ⟨by rfl,rfl⟩) (by assumption) ?_
  try simp only [Act.put,zA,zB,zC]
  refine heldTake 10 (v:=undef) rfl (by kernel_rfl) (by kernel_rfl) (by kernel_rfl) (fun _ _ _ h=>h) (Or.inr ⟨by rfl,rfl⟩) (by assumption) ?_
  try simp only [Act.put,zA,zB,zC]
  refine heldTake 11 (v:=undef) rfl (by kernel_rfl) (by kernel_rfl) (by kernel_rfl) (fun _ _ _ h=>h) (Or.inr ⟨by rfl,rfl⟩) (by assumption) ?_
  try simp only [Act.put,zA,zB,zC]
  refine heldTake 12 (v:=undef) rfl (by kernel_rfl) (by kernel_rfl) (by kernel_rfl) (fun _ _ _ h=>h) (Or.inr ⟨by rfl,rfl⟩) (by assumption) ?_
  try simp only [Act.put,zA,zB,zC]
  refine heldTake 13 (v:=undef) rfl (by kernel_rfl) (by kernel_rfl) (by kernel_rfl) (fun _ _ _ h=>h) (Or.inr ⟨by rfl,rfl⟩) (by assumption) ?_
  try simp only [Act.put,zA,zB,zC]
  refine heldTake 14 (v:=undef) rfl (by kernel_rfl) (by kernel_rfl) (by kernel_rfl) (fun _ _ _ h=>h) (Or.inr ⟨by rfl,rfl⟩) (by assumption) ?_
  try simp only [Act.put,zA,zB,zC]
  refine heldTake 15 (v:=undef) rfl (by kernel_rfl) (by kernel_rfl) (by kernel_rfl) (fun _ _ _ h=>h) (Or.inr ⟨by rfl,rfl⟩) (by assumption) ?_
  try simp only [Act.put,zA,zB,zC]
  refine hQ 16 (v:=?_) rfl (y:=.inl ⟨by rfl,?_⟩) (h:=?_)
  rotate_left
  ·(intro w' hSw;(try dsimp only at hSw);have hSS:=Ext.refl w';skip;go_simp;try with_reducible rfl)
  try simp only [Act.put,zA,zB,zC]
  refine hQ 17 (v:=?_) rfl (y:=.inl ⟨by rfl,?_⟩) (h:=?_)
  rotate_left
  ·(intro w' hSw;(try dsimp only at hSw);have hSS:=Ext.refl w';skip;go_simp;try with_reducible rfl)
  try simp only [Act.put,zA,zB,zC]
  refine wpAnyH_done (by kernel_rfl) ?_ _
  clear hHeld
  go_wp2_with fail
  go_ret
  exact ⟨by rw [←HBM.out];rfl,hxw2⟩
 | true =>
  refine hQ 8 (v:=?_) rfl (y:=.inl ⟨by rfl,?_⟩) (h:=?_)
  rotate_left
  ·(intro w' hSw;(try dsimp only at hSw);have hSS:=Ext.refl w';skip;go_simp;try with_reducible rfl)
  try simp only [Act.put,zA,zB,zC]
  refine hQ 9 (v:=?_) rfl (y:=.inl ⟨by rfl,?_⟩) (h:=?_)
  rotate_left
  ·(intro w' hSw;(try dsimp only at hSw);have hSS:=Ext.refl w';skip;go_simp;try with_reducible rfl)
  try simp only [Act.put,zA,zB,zC]
  refine hQ 10 (v:=?_) rfl (y:=.inl ⟨by rfl,?_⟩) (h:=?_)
  rotate_left
  ·(intro w' hSw;(try dsimp only at hSw);have hSS:=Ext.refl w';skip;go_simp;try with_reducible rfl)
  try simp only [Act.put,zA,zB,zC]
  refine hQ 11 (v:=?_) rfl (y:=.inl ⟨by rfl,?_⟩) (h:=?_)
  rotate_left
  ·(intro w' hSw;(try dsimp only at hSw);have hSS:=Ext.refl w';skip;go_simp;try with_reducible rfl)
  try simp only [Act.put,zA,zB,zC]
  refine hQ 12 (v:=?_) rfl (y:=.inl ⟨by rfl,?_⟩) (h:=?_)
  rotate_left
  ·(intro w' hSw;(try dsimp only at hSw);have hSS:=Ext.refl w';skip;go_simp;try with_reducible rfl)
  try simp only [Act.put,zA,zB,zC]
  refine hQ 13 (v:=?_) rfl (y:=.inl ⟨by rfl,?_⟩) (h:=?_)
  rotate_left
  ·(intro w' hSw;(try dsimp only at hSw);have hSS:=Ext.refl w';skip;go_simp;try with_reducible rfl)
  try simp only [Act.put,zA,zB,zC]
  have hn:=HX.out w2 hxw2
  refine wpAnyH_ready (rs:=[14]) (by kernel_rfl) (by simp) ?_
  refine AllReadyH.cons rfl (fun K hK=>?_) AllReadyH.nil
  go_simp
  go_at_call 122
  refine hn.mono ?_
  rintro e' w3 ⟨hx3,g5,o5,c5,rfl,hn5⟩
  have hxw3:=hxw2.trans hx3
  refine hK.out _ _ hxw3 (fun hHeld2=>?_)
  clear hK K
  try simp only [Act.put,zA,zB,zC]
  clear hHeld hn
  have hHeld:=hHeld2
  clear hHeld2
  have hq:=bool_fix (eqi_any w3 (some ⟨g2,o2,none⟩) (some ⟨g5,o5,none⟩) g2 o2 g5 o5 T.n T.n c2 c5 (natV e) (natV (upC d p)) (HE.out.ext hxw3) hn5) (b:=eqUp T.n e d p) eqUp_iff
  obtain ⟨be,hbe⟩:∃ z,z=eqUp T.n e d p:=⟨_,rfl⟩
  have HBE:=Lib.hid hbe
  rw [←hbe] at hq
  clear hbe
  refine wpAnyH_ready (rs:=[15]) (by kernel_rfl) (by simp) ?_
  refine AllReadyH.cons rfl (fun K hK=>?_) AllReadyH.nil
  go_simp
  go_at_call 22
  refine hq.mono ?_
  rintro e' w4 ⟨rfl,hx4⟩
  have hxw4:=hxw3.trans hx4
  refine hK.out _ _ hxw4 (fun hHeld2=>?_)
  clear hK K
  try simp only [Act.put,zA,zB,zC]
  clear hHeld hq
  have hHeld:=hHeld2
  clear hHeld2
  refine hQ 16 (v:=?_) rfl (y:=.inl ⟨by rfl,?_⟩) (h:=?_)
  rotate_left
  ·(intro w' hSw;(try dsimp only at hSw);have hSS:=Ext.refl w';skip;go_simp;try with_reducible rfl)
  try simp only [Act.put,zA,zB,zC]
  refine hQ 17 (v:=?_) rfl (y:=.inl ⟨by rfl,?_⟩) (h:=?_)
  rotate_left
  ·(intro w' hSw;(try dsimp only at hSw);have hSS:=Ext.refl w';skip;go_simp;try with_reducible rfl)
  try simp only [Act.put,zA,zB,zC]
  refine wpAnyH_done (by kernel_rfl) ?_ _
  clear hHeld
  go_wp2_with fail
  go_ret
  exact ⟨by rw [←HBM.out,←HBE.out];rfl,hxw4⟩
structure RunL (T:Tr) (M:List (List Nat)):Prop where
 pos:0<M.length
 len:∀ l,l∈M→l.length=T.n
 le:∀ l,l∈M→∀ p,p<T.n→fn l p≤T.en p
 z:∀ l,M[0]?=some l→∀ p,p<T.n→fn l p=0
 e:∀ l,M[M.length - 1]?=some l→∀ p,p<T.n→fn l p=T.en p
 st:∀ i l m,M[i]?=some l→M[i+1]?=some m→∃ p,p<T.n∧T.mayB (fn l) p=true∧∀ q,q<T.n→fn m q=upC (fn l) p q
theorem rsteps_results (tmps : Array Value) (W : World) (x y : Value) (t4 : tmps[4]? = some x) (t5 : tmps[5]? = some y) :
    (results Tryz.f82 tmps).run Tryz.prog W=.ok (.tuple #[x,y]) W:=by
 simp [results,go_sem,t4,t5]
set_option maxHeartbeats 4000000 in
theorem rsteps_any (w : World) (T : Tr) (hV : T.Valid) (sb : Nat) (hS : Spc T sb w) (base : Nat) (v : Value) (R : List Row) (hR : RowsQ w base v R) (hl : R.length ≤ 5000) (hM : RunL T (R.map Row.l)) :
    Calls Tryz.prog 82 #[.pointer (some ⟨sb,0,none⟩),v] w fun e w'=>Ext w w'∧∃ u,e=.returned (.tuple #[u,.bool true]):=by
 obtain ⟨j0,hj0,hy0,hy1,hy2⟩:=info_parts infoInt
 obtain ⟨ra,rg,ro,rc,rfl,hrc,hra,hrr⟩:=hR.get
 have hpos:0<R.length:=by have:=hM.pos;rwa [List.length_map] at this
 obtain ⟨rfl,_,hrg⟩:=hra hpos
 have hn8:=hV.n8
 have hn1:=hV.n1
 have HV:=Lib.hid hV
 have HS:=Lib.hid hS
 have HM:=Lib.hid hM
 have HRR:=Lib.hid hrr
 have HRG:=Lib.hid hrg
 -- each row
 have HROW:=Lib.hid (show ∀ i (hi:i<R.length),∃ g o c,R[i].a=some ⟨g,o,none⟩∧R[i].c=c∧(∀ w',Ext w w'→NumAt w' T.n (some ⟨g,o,none⟩) g o (natV (fn R[i].l)))∧(∀ w',Ext w w'→w'.cell? ⟨rg,ro+i,none⟩=some (.slice (some ⟨g,o,none⟩) T.n c)) from fun i hi=>by
  have hm:R[i]∈R:=List.getElem_mem hi
  have hlen:R[i].l.length=T.n:=hM.len _ (List.mem_map_of_mem hm)
  have hA:∀ w',Ext w w'→NumAt w' T.n R[i].a R[i].g R[i].o (natV (fn R[i].l)):=fun w' x=>by
   have:=Row.At.ext (hR.2 _ hm) x
   unfold Row.At at this
   rw [hlen] at this;exact this
  have ha:=(hA w (Ext.refl _)).pa (by omega)
  refine ⟨R[i].g,R[i].o,R[i].c,ha,rfl,fun w' x=>ha▸hA w' x,fun w' x=>?_⟩
  have:=hrr i hi w' x
  rw [ha,hlen] at this
  exact this)
 obtain ⟨rn,hrn⟩:∃ z,z=R.length:=⟨_,rfl⟩
 have HRN:=Lib.hid hrn
 rw [←hrn] at hrc hpos hl ⊢
 have gl:∀ w',Ext w w'→rg<w'.heap.size:=fun w' x=>Nat.lt_of_lt_of_le hrg x.le
 clear hS hR hM hrr hrg hra hrn hV
 go_enter Tryz.func82,Tryz.ntmps82
 go_upto_region 1 with fail
 refine boxed2 (w:=w) (G:=fun x=>Code.wp _ _ _ _ x) ?_
 intro w1 hx1 hs1 ⟨l2,c2,_,k2⟩ ⟨l3,c3,_,k3⟩
 have HB2:=Lib.hid (show Hold w1 w.heap.size _ from k2)
 have HB3:=Lib.hid (show Hold w1 (w.heap.size+1) _ from k3)
 clear hs1 k2 k3
 obtain ⟨g0,o0,cc0,ha0,hc0,hn0,hr0⟩:=HROW.out 0 (by have:=HRN.out;omega)
 obtain ⟨rm,hrm⟩:∃ z,z=rn - 1:=⟨_,rfl⟩
 have hrmR:rm<R.length:=by have:=HRN.out;omega
 obtain ⟨g9,o9,cc9,ha9,hc9,hn9,hr9⟩:=HROW.out rm hrmR
 have HN0:=Lib.hid hn0
 have HN9:=Lib.hid hn9
 have hr0':∀ w',Ext w w'→w'.cell? ⟨rg,ro,none⟩=some (.slice (some ⟨g0,o0,none⟩) T.n cc0):=hr0
 have hr9':∀ w',Ext w w'→w'.cell? ⟨rg,ro+rm,none⟩=some (.slice (some ⟨g9,o9,none⟩) T.n cc9):=hr9
 have d0:((rn:Int) == 0)=false:=by rw [beq_eq_false_iff_ne];omega
 have hw9:IntKind.i64.wrap ((rn:Int) - 1)=(rm:Int):=by rw [IntWalk.i64_in _ (by omega)];omega
 have hw8:(rn:Int) - 1=(rm:Int):=by omega
 have hw7:IntKind.i64.wrap (rm:Int)=(rm:Int):=IntWalk.i64_in _ (by omega)
 have hp0:(0:Int)<(rn:Int):=by omega
 have hp9:(rm:Int)<(rn:Int):=by omega
 have HRM:=Lib.hid hrm
 clear ha0 hc0 ha9 hc9 hn0 hn9 hr9 hr0 hrm
 refine wp_region_held_drew (S:=fun w'=>Ext w1 w') (by kernel_rfl) (Ext.refl _).drew (fun hHeld=>?_)
 refine hQ 0 (v:=?_) rfl (y:=.inl ⟨by rfl,?_⟩) (h:=?_)
 rotate_left
 ·(intro w' hSw;(try dsimp only at hSw);have hSS:=Ext.refl w';(have hSX:=hx1.trans hSw);go_simp;try with_reducible rfl)
 try simp only [Act.put,zA,zB,zC]
 refine hQ 1 (v:=?_) rfl (y:=.inl ⟨by rfl,?_⟩) (h:=?_)
 rotate_left
 ·(intro w' hSw;(try dsimp only at hSw);have hSS:=Ext.refl w';(have hSX:=hx1.trans hSw);go_simp;try with_reducible rfl)
 try simp only [Act.put,zA,zB,zC]
 refine hQ 2 (v:=?_) rfl (y:=.inl ⟨by rfl,?_⟩) (h:=?_)
 rotate_left
 ·(intro w' hSw;(try dsimp only at hSw);have hSS:=Ext.refl w';(have hSX:=hx1.trans hSw);go_simp;try with_reducible rfl)
 try simp only [Act.put,zA,zB,zC]
 refine hQ 3 (v:=?_) rfl (y:=.inl ⟨by rfl,?_⟩) (h:=?_)
 rotate_left
 ·(intro w' hSw;(try dsimp only at hSw);have hSS:=Ext.refl w';(have hSX:=hx1.trans hSw);go_simp;try with_reducible rfl)
 try simp only [Act.put,zA,zB,zC]
 refine hQ 4 (v:=?_) rfl (y:=.inl ⟨by rfl,?_⟩) (h:=?_)
 rotate_left
 ·(intro w' hSw;(try dsimp only at hSw);have hSS:=Ext.refl w';(have hSX:=hx1.trans hSw);go_simp;try with_reducible rfl)
 try simp only [Act.put,zA,zB,zC]
 refine hQ 5 (v:=?_) rfl (y:=.inl ⟨by rfl,?_⟩) (h:=?_)
 rotate_left
 ·(intro w' hSw;(try dsimp only at hSw);have hSS:=Ext.refl w';(have hSX:=hx1.trans hSw);go_simp;try with_reducible rfl)
 try simp only [Act.put,zA,zB,zC]
 refine hQ 6 (v:=?_) rfl (y:=.inl ⟨by rfl,?_⟩) (h:=?_)
 rotate_left
 ·(intro w' hSw;(try dsimp only at hSw);have hSS:=Ext.refl w';(have hSX:=hx1.trans hSw);go_simp;try with_reducible rfl)
 try simp only [Act.put,zA,zB,zC]
 refine hQ 7 (v:=?_) rfl (y:=.inl ⟨by rfl,?_⟩) (h:=?_)
 rotate_left
 ·(intro w' hSw;(try dsimp only at hSw);have hSS:=Ext.refl w';(have hSX:=hx1.trans hSw);go_simp;try with_reducible rfl)
 try simp only [Act.put,zA,zB,zC]
 have hA1:Ext w1 w1.drew:=(Ext.refl w1).drew
 have hz:=rzero_any w1.drew T sb (HS.out.ext (hx1.trans hA1)) (by omega)
 refine wpAnyH_ready (rs:=[8]) (by kernel_rfl) (by simp) ?_
 refine AllReadyH.cons rfl (fun K hK=>?_) AllReadyH.nil
 go_simp
 go_at_call 117
 refine hz.mono ?_
 rintro e w2 ⟨hx2,gz,rfl,-,hRz⟩
 have hx12:=hA1.trans hx2
 refine hK.out _ _ hx12 (fun hHeld2=>?_)
 clear hK K
 try simp only [Act.put,zA,zB,zC]
 clear hHeld hz
 have hHeld:=hHeld2
 clear hHeld2
 have heq:=bool_fix (eqi_any w2 (some ⟨g0,o0,none⟩) (some ⟨gz,0,none⟩) g0 o0 gz 0 T.n T.n cc0 T.n _ _ (HN0.out w2 (hx1.trans hx12)) (hRz.num (by omega))) (b:=true) ⟨fun _=>⟨rfl,fun q hq=>by
  show ((fn R[0].l q:Nat):Int)=0
  rw [HM.out.z R[0].l (by rw [List.getElem?_map,List.getElem?_eq_getElem (by have:=HRN.out;omega)];rfl) q hq];rfl⟩,fun _=>rfl⟩
 refine wpAnyH_ready (rs:=[9]) (by kernel_rfl) (by simp) ?_
 refine AllReadyH.cons rfl (fun K hK=>?_) AllReadyH.nil
 go_simp
 go_at_call 22
 refine heq.mono ?_
 rintro e w3 ⟨rfl,hx3⟩
 have hx13:=hx12.trans hx3
 refine hK.out _ _ hx13 (fun hHeld2=>?_)
 clear hK K
 try simp only [Act.put,zA,zB,zC]
 clear hHeld heq hRz
 have hHeld:=hHeld2
 clear hHeld2
 refine hQ 10 (v:=?_) rfl (y:=.inl ⟨by rfl,?_⟩) (h:=?_)
 rotate_left
 ·(intro w' hSw;(try dsimp only at hSw);have hSS:=Ext.refl w';(have hSX:=hx1.trans hSw);go_simp;try with_reducible rfl)
 try simp only [Act.put,zA,zB,zC]
 refine hQ 11 (v:=?_) rfl (y:=.inl ⟨by rfl,?_⟩) (h:=?_)
 rotate_left
 ·(intro w' hSw;(try dsimp only at hSw);have hSS:=Ext.refl w';(have hSX:=hx1.trans hSw);go_simp;try with_reducible rfl)
 try simp only [Act.put,zA,zB,zC]
 refine hQ 12 (v:=?_) rfl (y:=.inl ⟨by rfl,?_⟩) (h:=?_)
 rotate_left
 ·(intro w' hSw;(try dsimp only at hSw);have hSS:=Ext.refl w';(have hSX:=hx1.trans hSw);go_simp;try with_reducible rfl)
 try simp only [Act.put,zA,zB,zC]
 refine hQ 13 (v:=?_) rfl (y:=.inl ⟨by rfl,?_⟩) (h:=?_)
 rotate_left
 ·(intro w' hSw;(try dsimp only at hSw);have hSS:=Ext.refl w';(have hSX:=hx1.trans hSw);go_simp;try with_reducible rfl)
 try simp only [Act.put,zA,zB,zC]
 refine hQ 14 (v:=?_) rfl (y:=.inl ⟨by rfl,?_⟩) (h:=?_)
 rotate_left
 ·(intro w' hSw;(try dsimp only at hSw);have hSS:=Ext.refl w';(have hSX:=hx1.trans hSw);go_simp;try with_reducible rfl)
 try simp only [Act.put,zA,zB,zC]
 refine hQ 15 (v:=?_) rfl (y:=.inl ⟨by rfl,?_⟩) (h:=?_)
 rotate_left
 ·(intro w' hSw;(try dsimp only at hSw);have hSS:=Ext.refl w';(have hSX:=hx1.trans hSw);go_simp;try with_reducible rfl)
 try simp only [Act.put,zA,zB,zC]
 refine hQ 16 (v:=?_) rfl (y:=.inl ⟨by rfl,?_⟩) (h:=?_)
 rotate_left
 ·(intro w' hSw;(try dsimp only at hSw);have hSS:=Ext.refl w';(have hSX:=hx1.trans hSw);go_simp;try with_reducible rfl)
 try simp only [Act.put,zA,zB,zC]
 refine hQ 17 (v:=?_) rfl (y:=.inl ⟨by rfl,?_⟩) (h:=?_)
 rotate_left
 ·(intro w' hSw;(try dsimp only at hSw);have hSS:=Ext.refl w';(have hSX:=hx1.trans hSw);go_simp;try with_reducible rfl)
 try simp only [Act.put,zA,zB,zC]
 refine hQ 18 (v:=?_) rfl (y:=.inl ⟨by rfl,?_⟩) (h:=?_)
 rotate_left
 ·(intro w' hSw;(try dsimp only at hSw);have hSS:=Ext.refl w';(have hSX:=hx1.trans hSw);go_simp;try with_reducible rfl)
 try simp only [Act.put,zA,zB,zC]
 refine hQ 19 (v:=?_) rfl (y:=.inl ⟨by rfl,?_⟩) (h:=?_)
 rotate_left
 ·(intro w' hSw;(try dsimp only at hSw);have hSS:=Ext.refl w';(have hSX:=hx1.trans hSw);go_simp;try with_reducible rfl)
 try simp only [Act.put,zA,zB,zC]
 have hfl:=rfull_any w3 T sb (HS.out.ext (hx1.trans hx13)) (by omega)
 refine wpAnyH_ready (rs:=[20]) (by kernel_rfl) (by simp) ?_
 refine AllReadyH.cons rfl (fun K hK=>?_) AllReadyH.nil
 go_simp
 go_at_call 118
 refine hfl.mono ?_
 rintro e w4 ⟨hx4,gf,rfl,hRf⟩
 have hx14:=hx13.trans hx4
 refine hK.out _ _ hx14 (fun hHeld2=>?_)
 clear hK K
 try simp only [Act.put,zA,zB,zC]
 clear hHeld hfl
 have hHeld:=hHeld2
 clear hHeld2
 have heq:=bool_fix (eqi_any w4 (some ⟨g9,o9,none⟩) (some ⟨gf,0,none⟩) g9 o9 gf 0 T.n T.n cc9 T.n _ _ (HN9.out w4 (hx1.trans hx14)) (hRf.num (by omega))) (b:=true) ⟨fun _=>⟨rfl,fun q hq=>by
  show ((fn (R[rm]'(by have:=HRN.out;have:=HRM.out;omega)).l q:Nat):Int)=((T.en q:Nat):Int)
  rw [HM.out.e (R[rm]'(by have:=HRN.out;have:=HRM.out;omega)).l (by rw [List.length_map,List.getElem?_map,show R.length - 1=rm from by rw [HRM.out,HRN.out],List.getElem?_eq_getElem (by have:=HRN.out;have:=HRM.out;omega)];rfl) q hq]⟩,fun _=>rfl⟩
 refine wpAnyH_ready (rs:=[21]) (by kernel_rfl) (by simp) ?_
 refine AllReadyH.cons rfl (fun K hK=>?_) AllReadyH.nil
 go_simp
 go_at_call 22
 refine heq.mono ?_
 rintro e w5 ⟨rfl,hx5⟩
 have hx15:=hx14.trans hx5
 refine hK.out _ _ hx15 (fun hHeld2=>?_)
 clear hK K
 try simp only [Act.put,zA,zB,zC]
 clear hHeld heq hRf
 have hHeld:=hHeld2
 clear hHeld2
 refine hQ 22 (v:=?_) rfl (y:=.inl ⟨by rfl,?_⟩) (h:=?_)
 rotate_left
 ·(intro w' hSw;(try dsimp only at hSw);have hSS:=Ext.refl w';(have hSX:=hx1.trans hSw);go_simp;try with_reducible rfl)
 try simp only [Act.put,zA,zB,zC]
 refine hQ 23 (v:=?_) rfl (y:=.inl ⟨by rfl,?_⟩) (h:=?_)
 rotate_left
 ·(intro w' hSw;(try dsimp only at hSw);have hSS:=Ext.refl w';(have hSX:=hx1.trans hSw);go_simp;try with_reducible rfl)
 try simp only [Act.put,zA,zB,zC]
 refine wpAnyH_done (by kernel_rfl) ?_ _
 have hxw5:=hx1.trans hx15
 clear hHeld hx2 hx12 hx3 hx13 hx4 hx14 hx5 hA1 hr0' hr9'
 have h55:Ext w5 w5:=Ext.refl _
 have hi1:(1:Int)≤(rn:Int):=by omega
 have hi2:1≤rn:=by omega
 have hi3:1≤rc:=by omega
 obtain ⟨x0,ng,no,nc,rs,hsb,hng,hnr,hnw⟩:=HS.out.ex
 obtain ⟨lsb,csb,_,_⟩:=hsb.box
 clear hsb hng hnr hnw rs
 rcases (show rc=1∨1<rc by omega) with rfl | hrc1
 ·have HOI:=Lib.hid (show ∀ i,i<rn - 1→ro+i=ro+(i+1) from fun i hi=>by omega)
  go_wp2_with fail
  go_loopg [6,37] (rn - 1) (fun gg v6 v37 wr=>∃ (i:Nat) (xs:List Value),i≤rn - 1∧gg=rn - 1 - i∧v37=.int .i64 i∧Ext w5 wr∧Que wr w5.heap.size 1 v6 i xs)
  case atStart=>exact ⟨0,[],by omega,rfl,rfl,h55,Que.nil _ _ _⟩
  case round=>
   clear h55
   obtain ⟨i,xs,hi,rfl,rfl,hx5r,hQ⟩:=hrel
   obtain ⟨qa,qc,rfl⟩:=hQ.slice
   have HQ:=Lib.hid hQ
   have hx1r:=hx15.trans hx5r
   have hxwr:=hxw5.trans hx5r
   clear hQ
   by_cases hin:i<rn - 1
   case neg=>
    have hir:¬(i:Int)<((rn - 1:Nat):Int):=by omega
    go_wp2_with fail
    exact bodyPost_ret (rsteps_results _ _ _ _ rfl rfl) rfl ⟨hxwr,_,rfl⟩
   omega
 ·have HOI:=Lib.hid (show ∀ i,i<rn - 1→ro+1+i=ro+(i+1) from fun i hi=>by omega)
  go_wp2_with fail
  go_loopg [6,37] (rn - 1) (fun gg v6 v37 wr=>∃ (i:Nat) (xs:List Value),i≤rn - 1∧gg=rn - 1 - i∧v37=.int .i64 i∧Ext w5 wr∧Que wr w5.heap.size 1 v6 i xs)
  case atStart=>exact ⟨0,[],by omega,rfl,rfl,h55,Que.nil _ _ _⟩
  case round=>
   clear h55
   obtain ⟨i,xs,hi,rfl,rfl,hx5r,hQ⟩:=hrel
   obtain ⟨qa,qc,rfl⟩:=hQ.slice
   have HQ:=Lib.hid hQ
   have hx1r:=hx15.trans hx5r
   have hxwr:=hxw5.trans hx5r
   clear hQ
   by_cases hin:i<rn - 1
   case neg=>
    have hir:¬(i:Int)<((rn - 1:Nat):Int):=by omega
    go_wp2_with fail
    exact bodyPost_ret (rsteps_results _ _ _ _ rfl rfl) rfl ⟨hxwr,_,rfl⟩
   have hin':(i:Int)<((rn - 1:Nat):Int):=by omega
   have hiR:i<R.length:=by have:=HRN.out;omega
   have hiR1:i+1<R.length:=by have:=HRN.out;omega
   obtain ⟨g,o,cc,hga,hgc,hgn,hgr⟩:=HROW.out i hiR
   obtain ⟨g2,o2,cc2,hga2,hgc2,hgn2,hgr2⟩:=HROW.out (i+1) hiR1
   obtain ⟨k,hk,hkP,hkN⟩:∃ k,k<T.n∧(T.mayB (fn R[i].l) k && eqUp T.n (fn R[i+1].l) (fn R[i].l) k)=true∧NoneB (fun q=>T.mayB (fn R[i].l) q && eqUp T.n (fn R[i+1].l) (fn R[i].l) q) k:=by
    obtain ⟨p,hp,h1,h2⟩:=HM.out.st i R[i].l R[i+1].l (by rw [List.getElem?_map,List.getElem?_eq_getElem hiR];rfl) (by rw [List.getElem?_map,List.getElem?_eq_getElem hiR1];rfl)
    have h3:(T.mayB (fn R[i].l) p && eqUp T.n (fn R[i+1].l) (fn R[i].l) p)=true:=by
     rw [Bool.and_eq_true]
     exact ⟨h1,eqUp_iff.2 ⟨rfl,fun q hq=>by show ((fn R[i+1].l q:Nat):Int)=_;rw [h2 q hq]⟩⟩
    rcases noneB_or_first (fun q=>T.mayB (fn R[i].l) q && eqUp T.n (fn R[i+1].l) (fn R[i].l) q) T.n with h4 | h4
    ·have h5:(T.mayB (fn R[i].l) p && eqUp T.n (fn R[i+1].l) (fn R[i].l) p)=false:=h4 p hp
     rw [h5] at h3;cases h3
    ·exact h4
   have HGN:=Lib.hid (And.intro hgn hgn2)
   have HGR:=Lib.hid (And.intro hgr hgr2)
   have HK:=Lib.hid (idxI_hit hk hkP hkN)
   have HLE:=Lib.hid (show ∀ q,q<T.n→fn R[i].l q≤T.en q from HM.out.le _ (List.mem_map_of_mem (List.getElem_mem hiR)))
   have e0:∀ w',Ext w w'→w'.cell? ⟨rg,(ro+1)+i,none⟩=some (.slice (some ⟨g2,o2,none⟩) T.n cc2):=fun w' x=>by rw [HOI.out i hin];exact hgr2 w' x
   clear hkP hkN hga hgc hgn hgr hga2 hgc2 hgn2 hgr2
   go_upto_region 7 with fail
   refine boxed2 (w:=wr) (G:=fun x=>Code.wp _ _ _ _ x) ?_
   intro wa hxa hsa ⟨l7,c7,_,k7⟩ ⟨l8,c8,_,k8⟩
   have HB7:=Lib.hid (show Hold wa wr.heap.size _ from k7)
   have HB8:=Lib.hid (show Hold wa (wr.heap.size+1) _ from k8)
   have hx1a:=hx1r.trans hxa
   have hx5a:=hx5r.trans hxa
   have hxwa:=hxwr.trans hxa
   clear hsa k7 k8 e0
   have hii:=rindices_any wa T.n (by omega)
   go_wp2_with fail
   go_at_call 119
   refine hii.mono ?_
   rintro e wb ⟨hxb,gi,rfl,hRi⟩
   have hxab:=hxb
   have hx1b:=hx1a.trans hxb
   have hx5b:=hx5a.trans hxb
   have hxwb:=hxwa.trans hxb
   have hidx:=idx_int wb (some ⟨gi,0,none⟩) gi 0 T.n T.n (fun q=>.int .i64 (q:Nat)) 120 #[.pointer (some ⟨w.heap.size,0,none⟩),.pointer (some ⟨w.heap.size+1,0,none⟩),.pointer (some ⟨wr.heap.size,0,none⟩),.pointer (some ⟨wr.heap.size+1,0,none⟩)]
    (fun q=>T.mayB (fn R[i].l) q && eqUp T.n (fn R[i+1].l) (fn R[i].l) q) (by omega) (fun _=>rfl) (fun w' x q hq=>by rw [Nat.zero_add];exact x.cell (hRi.c q hq)) (enters_of Tryz.func120 (by kernel_rfl) rfl)
    (fun q hq w' x=>rsteps1 w' T HV.out sb (HS.out.ext (hxwb.trans x)) w.heap.size (w.heap.size+1) wr.heap.size (wr.heap.size+1) rg ro rn rc i g o cc g2 o2 cc2 (fn R[i].l) (fn R[i+1].l) (HB2.out.ext (hx1b.trans x)) (HB3.out.ext (hx1b.trans x)) (HB7.out.ext (hxab.trans x)) (HB8.out.ext (hxab.trans x)) (by omega) (gl w' (hxwb.trans x)) (HGR.out.1 w' (hxwb.trans x)) (HGN.out.1 w' (hxwb.trans x)) (HGN.out.2 w' (hxwb.trans x)) HLE.out q hq)
   rw [HK.out] at hidx
   clear hii hRi hxb
   go_wp2_with fail
   go_at_call 83
   refine hidx.mono ?_
   rintro e wd ⟨rfl,hxd⟩
   have hx5d:=hx5b.trans hxd
   have hk0:decide ((k:Int)<0)=false:=decide_eq_false (by omega)
   have HQD:=Lib.hid (HQ.out.ext (hxa.trans (hxab.trans hxd)))
   have hszd:=hx5d.le
   clear hidx
   go_upto_region 11 with (at_builtin;refine wpList_append_que _ rfl _ _ 39 39 rfl (base:=w5.heap.size) (e:=3) (size:=1) j0 (.int .i64 0) 8 Tryz.underlying39 hj0 hy0 hy1 hy2 rfl rfl (v:=.slice qa i qc) (n:=i) (xs:=xs) (HQD.out.ext (Ext.alloc wd (.cells #[.int .i64 (k:Nat)] 3))) (by rw [World.size_alloc];omega) (.slice (some ⟨wd.heap.size,0,none⟩) 1 1) 1 [.int .i64 (k:Nat)] rfl (by exact Src.ofSlice _ Tryz.underlying39 ⟨wd.heap.size,0,none⟩ 1 1 _ rfl (news_ok wd _ _) (one_int _)) (by unfold maxLen;omega) (by omega) ?_;rintro v9 w9 hq9 hg9 -;have H9:=Lib.hid hq9;have hx59:Ext w5 w9:=Below.grown (hx5d.trans (Ext.alloc wd (.cells #[.int .i64 (k:Nat)] 3))) hg9 (by rw [World.size_alloc];omega) (fun g e=>HQD.out.block g e);clear hq9 hg9)
   go_wp2_with fail
   go_roundg (rn - 1 - (i+1))
   case rel=>exact ⟨i+1,_,by omega,rfl,by go_num,hx59,H9.out⟩
   case measure=>omega
set_option maxHeartbeats 1000000 in
theorem risrun_any (w : World) (T : TM) (hT : T.At w) (hV : T.toTr.Valid) (base : Nat) (v : Value) (R : List Row) (hR : RowsQ w base v R) (hl : R.length ≤ 5000) (hM : RunL T.toTr (R.map Row.l)) :
    Calls Tryz.prog 37 #[T.val,v] w fun e w'=>e=.returned (.bool true)∧Ext w w':=by
 have hva:=Lib.hid (fun W (x:Ext w W)=>bool_fix (valid_any W T (hT.ext x)) (b:=true) ⟨fun _=>hV,fun _=>rfl⟩)
 have hop:=Lib.hid (fun W (x:Ext w W)=>ropen_any W T (hT.ext x) hV)
 obtain ⟨ra,rc,hrv⟩:=hR.1.slice
 subst hrv
 have hst:=Lib.hid (fun W (x:Ext w W) sb (hS:Spc T.toTr sb W)=>rsteps_any W T.toTr hV sb hS base _ R (hR.ext x) hl hM)
 obtain ⟨rn,hrn⟩:∃ z,z=R.length:=⟨_,rfl⟩
 rw [←hrn] at hst ⊢
 simp only [TM.val] at hva hop ⊢
 clear hT hV hR hM hrn hl
 go_enter Tryz.func37,Tryz.ntmps37
 go_upto_region 1 with fail
 refine boxed1 (w:=w) (G:=fun x=>Code.wp _ _ _ _ x) ?_
 intro w1 hx1 hs1 ⟨l0,c0,_,_⟩
 have hx11:Ext w1 w1:=Ext.refl _
 clear hs1
 go_wp2_with fail
 go_at_call 80
 refine (hva.out w1 hx1).mono ?_
 rintro e w2 ⟨rfl,hx2⟩
 have hxw2:=hx1.trans hx2
 go_wp2_with fail
 go_at_call 81
 refine (hop.out w2 hxw2).mono ?_
 rintro e w3 ⟨hx3,sb,rfl,hS⟩
 have hxw3:=hxw2.trans hx3
 have HS:=Lib.hid hS
 clear hS
 go_wp2_with fail
 go_at_call 82
 refine (hst.out w3 hxw3 sb HS.out).mono ?_
 rintro e w4 ⟨hx4,u,rfl⟩
 go_wp2_with fail
 go_ret
 exact ⟨rfl,hxw3.trans hx4⟩
end Go.Proofs.YtkhgpockmaghjaaGreat
