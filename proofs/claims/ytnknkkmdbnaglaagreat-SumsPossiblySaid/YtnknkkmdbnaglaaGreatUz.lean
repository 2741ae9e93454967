/- Contracts and laws in plain Lean for SPos: group Uz. -/
import Derived.Test.YtnknkkmdbnaglaaGreatUv
import Derived.Test.YtnknkkmdbnaglaaGreatUw
import Derived.Test.YtnknkkmdbnaglaaGreatUx
import Derived.Test.YtnknkkmdbnaglaaGreatUk
set_option maxRecDepth 100000
namespace Go.Proofs.YtnknkkmdbnaglaaGreat
open Go.RowKit Go.Shelf
def exSTM (gx g0 g1 a0 a1 a2 gp:Nat):TM:=
 { ex39 with
  a:=some ⟨gp,0,none⟩,b:=gp,off:=0,cap:=2
  va:=fun _=>some ⟨gx,0,none⟩,vb:=fun _=>gx,vo:=fun _=>0,vc:=fun _=>1
  ea:=fun k=>if k=0 then some ⟨g0,0,none⟩ else some ⟨g1,0,none⟩,eb:=fun k=>if k=0 then g0 else g1,eo:=fun _=>0,ec:=fun k=>if k=0 then 2 else 1
  aa:=fun k i=>if k=0 then (if i=0 then some ⟨a0,0,none⟩ else some ⟨a1,0,none⟩) else some ⟨a2,0,none⟩,ab:=fun k i=>if k=0 then (if i=0 then a0 else a1) else a2,ao:=fun _ _=>0,ac:=fun _ _=>1 }
def exSTD (gt:Nat):TmD:=⟨⟨some ⟨gt,0,none⟩,2,2,gt,0⟩,fun i=>if i=0 then 0 else 1,fun _=>⟨#[120]⟩,fun _=>1⟩
theorem okS:okI 0∧okI 1∧okI (-5):=by unfold okI;decide
theorem exSTD_at {gt:Nat} {w:World} (h:Hold w gt #[.int .i64 0,.string ⟨#[120]⟩,.int .i64 1,.int .i64 1,.string ⟨#[120]⟩,.int .i64 1]):(exSTD gt).At w:=by
 have b:=h.box
 have hc:∀ i,i<2→i=0∨i=1:=fun i h=>by omega
 refine ⟨by show (2:Nat)≤_;decide,fun _=>rfl,fun _=>h.lt,fun i hi=>?_,fun i hi=>?_,fun i hi=>?_,fun i hi=>?_,fun i hi=>by show (1:Nat)≤_;decide,fun i hi=>okS.2.1⟩
 ·rcases hc i hi with rfl | rfl
  ·exact h.cell0 0
  ·exact h.cell0 3
 ·rcases hc i hi with rfl | rfl
  ·exact h.cell0 1
  ·exact h.cell0 4
 ·rcases hc i hi with rfl | rfl
  ·exact h.cell0 2
  ·exact h.cell0 5
 ·rcases hc i hi with rfl | rfl
  ·exact okS.1
  ·exact okS.2.1
theorem exSTM_at {gx g0 g1 a0 a1 a2 gp : Nat} {w : World} (hx : Hold w gx #[.string ⟨#[120]⟩, .int .i64 0])
    (h0:Hold w g0 #[.int .i64 1,.int .i64 0,.int .i64 0,.int .i64 0,.slice (some ⟨a0,0,none⟩) 1 1,.int .i64 1,.int .i64 0,.int .i64 0,.int .i64 0,.slice (some ⟨a1,0,none⟩) 1 1])
    (h1:Hold w g1 #[.int .i64 1,.int .i64 0,.int .i64 0,.int .i64 0,.slice (some ⟨a2,0,none⟩) 1 1])
    (q0:Hold w a0 #[.int .i64 0,.int .i64 1]) (q1:Hold w a1 #[.int .i64 0,.int .i64 (-5)]) (q2:Hold w a2 #[.int .i64 0,.int .i64 1])
    (hp:Hold w gp #[.string ⟨#[97]⟩,.slice (some ⟨gx,0,none⟩) 1 1,.slice (some ⟨g0,0,none⟩) 2 2,.string ⟨#[98]⟩,.slice (some ⟨gx,0,none⟩) 1 1,.slice (some ⟨g1,0,none⟩) 1 1]):(exSTM gx g0 g1 a0 a1 a2 gp).At w:=by
 have bx:=hx.box
 have b0:=h0.box
 have b1:=h1.box
 have c0:=q0.box
 have c1:=q1.box
 have c2:=q2.box
 have bp:=hp.box
 have hv:∀ i,i<1→i=0:=fun i h=>by omega
 have hen:∀ k,k<2→∀ i,i<(exSTM gx g0 g1 a0 a1 a2 gp).en k→(k=0∧i=0)∨(k=0∧i=1)∨(k=1∧i=0):=by
  intro k hk i hi
  rcases ltS hk with rfl | rfl
  ·have:i<2:=hi
   omega
  ·have:i<1:=hi
   right;right;exact ⟨rfl,by omega⟩
 refine ⟨⟨by show (2:Nat)≤_;decide,by show (2:Nat)≤2;decide,fun _=>rfl,fun _=>bp.lt,?_,?_,?_⟩,⟨fun _ _=>by show (1:Nat)≤_;decide,fun _ _=>Nat.le_refl _,fun _ _ _=>rfl,fun _ _ _=>bx.lt,?_,?_⟩,
  ⟨?_,?_,?_,?_,?_,?_,?_,?_,?_⟩,⟨fun _ _ _ _=>by show (1:Nat)≤_;decide,fun _ _ _ _=>Nat.le_refl _,?_,?_,?_,?_⟩,?_⟩
 ·intro w' x k hk
  rcases ltS hk with rfl | rfl
  ·exact bp.cell w' x 0
  ·exact bp.cell w' x 3
 ·intro w' x k hk
  rcases ltS hk with rfl | rfl
  ·exact bp.cell w' x 1
  ·exact bp.cell w' x 4
 ·intro w' x k hk
  rcases ltS hk with rfl | rfl
  ·exact bp.cell w' x 2
  ·exact bp.cell w' x 5
 ·intro w' x k i hk hi
  obtain rfl:=hv i hi
  exact bx.cell w' x 0
 ·intro w' x k i hk hi
  obtain rfl:=hv i hi
  exact bx.cell w' x 1
 ·intro k hk
  rcases ltS hk with rfl | rfl
  ·show (2:Nat)≤_;decide
  ·show (1:Nat)≤_;decide
 ·intro k hk
  rcases ltS hk with rfl | rfl
  ·exact Nat.le_refl _
  ·exact Nat.le_refl _
 ·intro k hk _
  rcases ltS hk with rfl | rfl <;> rfl
 ·intro k hk _
  rcases ltS hk with rfl | rfl
  ·exact b0.lt
  ·exact b1.lt
 ·intro w' x k i hk hi
  rcases hen k hk i hi with ⟨rfl,rfl⟩ | ⟨rfl,rfl⟩ | ⟨rfl,rfl⟩
  ·exact b0.cell w' x 0
  ·exact b0.cell w' x 5
  ·exact b1.cell w' x 0
 ·intro w' x k i hk hi
  rcases hen k hk i hi with ⟨rfl,rfl⟩ | ⟨rfl,rfl⟩ | ⟨rfl,rfl⟩
  ·exact b0.cell w' x 1
  ·exact b0.cell w' x 6
  ·exact b1.cell w' x 1
 ·intro w' x k i hk hi
  rcases hen k hk i hi with ⟨rfl,rfl⟩ | ⟨rfl,rfl⟩ | ⟨rfl,rfl⟩
  ·exact b0.cell w' x 2
  ·exact b0.cell w' x 7
  ·exact b1.cell w' x 2
 ·intro w' x k i hk hi
  rcases hen k hk i hi with ⟨rfl,rfl⟩ | ⟨rfl,rfl⟩ | ⟨rfl,rfl⟩
  ·exact b0.cell w' x 3
  ·exact b0.cell w' x 8
  ·exact b1.cell w' x 3
 ·intro w' x k i hk hi
  rcases hen k hk i hi with ⟨rfl,rfl⟩ | ⟨rfl,rfl⟩ | ⟨rfl,rfl⟩
  ·exact b0.cell w' x 4
  ·exact b0.cell w' x 9
  ·exact b1.cell w' x 4
 ·intro k i hk hi _
  rcases hen k hk i hi with ⟨rfl,rfl⟩ | ⟨rfl,rfl⟩ | ⟨rfl,rfl⟩ <;> rfl
 ·intro k i hk hi _
  rcases hen k hk i hi with ⟨rfl,rfl⟩ | ⟨rfl,rfl⟩ | ⟨rfl,rfl⟩
  ·exact c0.lt
  ·exact c1.lt
  ·exact c2.lt
 ·intro w' x k i j hk hi hj
  obtain rfl:=hv j hj
  rcases hen k hk i hi with ⟨rfl,rfl⟩ | ⟨rfl,rfl⟩ | ⟨rfl,rfl⟩
  ·exact c0.cell w' x 0
  ·exact c1.cell w' x 0
  ·exact c2.cell w' x 0
 ·intro w' x k i j hk hi hj
  obtain rfl:=hv j hj
  rcases hen k hk i hi with ⟨rfl,rfl⟩ | ⟨rfl,rfl⟩ | ⟨rfl,rfl⟩
  ·exact c0.cell w' x 1
  ·exact c1.cell w' x 1
  ·exact c2.cell w' x 1
 ·refine ⟨fun k hk=>?_,fun _ _ _ _=>by show (1:Nat)≤_;decide,fun _ _ _ _=>okS.1,fun k i hk hi=>okS.2.1,fun k i hk hi=>okS.1,fun k i hk hi=>okS.1,fun _ _ _ _=>okS.1,fun _ _ _ _ _ _=>okS.1,fun k i j hk hi hj=>?_⟩
  ·rcases ltS hk with rfl | rfl
   ·show (1:Nat)≤_;decide
   ·show (1:Nat)≤_;decide
  ·rcases hen k hk i hi with ⟨rfl,rfl⟩ | ⟨rfl,rfl⟩ | ⟨rfl,rfl⟩ <;> first | exact okS.1 | exact okS.2.1 | exact okS.2.2
theorem two1_results (tmps : Array Value) (W : World) (b : Nat) (x0 x1 x2 x3 x4 : Value) (t2 : tmps[2]? = some (.pointer (some ⟨b, 0, none⟩))) (c0 : W.cell? ⟨b, 0, none⟩ = some x0) (c1 : W.cell? ⟨b, 1, none⟩ = some x1) (c2 : W.cell? ⟨b, 2, none⟩ = some x2) (c3 : W.cell? ⟨b, 3, none⟩ = some x3) (c4 : W.cell? ⟨b, 4, none⟩ = some x4) :
    (results Tryz.f149 tmps).run Tryz.prog W=.ok (.agg #[x0,x1,x2,x3,x4]) W:=by
 simp [results,go_sem,t2,c0,c1,c2,c3,c4]
set_option maxHeartbeats 1000000 in
theorem two1_any (w:World) (x:Int):Calls Tryz.prog 149 #[.int .i64 x] w fun e w'=>Ext w w'∧∃ g,e=.returned (.agg #[.int .i64 1,.int .i64 0,.int .i64 0,.int .i64 0,.slice (some ⟨g,0,none⟩) 1 1])∧w.heap.size≤g∧Hold w' g #[.int .i64 0,.int .i64 x]:=by
 go_enter Tryz.func149,Tryz.ntmps149
 go_upto_region 1 with fail
 refine boxed1 (w:=w) (G:=fun x=>Code.wp _ _ _ _ x) ?_
 intro w1 hx1 hs1 ⟨l0,c0,f0,k0⟩
 have hx11:Ext w1 w1:=Ext.refl _
 clear hs1
 go_wp2_with fail
 have kk:Hold w1 w.heap.size _:=k0
 have hk5:=((((kk.set 0 (.int .i64 1)).set 1 (.int .i64 0)).set 2 (.int .i64 0)).set 3 (.int .i64 0)).set 4 (.slice (some ⟨w1.heap.size,0,none⟩) 1 1)
 simp only [List.setIfInBounds_toArray,List.set_cons_zero,List.set_cons_succ] at hk5
 have hx2:=((((hx1.setCell (p:=⟨w.heap.size,0,none⟩) (by show w.heap.size≤w.heap.size;omega) (.int .i64 1)).setCell (p:=⟨w.heap.size,1,none⟩) (by show w.heap.size≤w.heap.size;omega) (.int .i64 0)).setCell (p:=⟨w.heap.size,2,none⟩) (by show w.heap.size≤w.heap.size;omega) (.int .i64 0)).setCell (p:=⟨w.heap.size,3,none⟩) (by show w.heap.size≤w.heap.size;omega) (.int .i64 0)).setCell (p:=⟨w.heap.size,4,none⟩) (by show w.heap.size≤w.heap.size;omega) (.slice (some ⟨w1.heap.size,0,none⟩) 1 1)
 generalize hw2:((((w1.setCell ⟨w.heap.size,0,none⟩ (.int .i64 1)).setCell ⟨w.heap.size,1,none⟩ (.int .i64 0)).setCell ⟨w.heap.size,2,none⟩ (.int .i64 0)).setCell ⟨w.heap.size,3,none⟩ (.int .i64 0)).setCell ⟨w.heap.size,4,none⟩ (.slice (some ⟨w1.heap.size,0,none⟩) 1 1)=w2 at hk5 hx2 ⊢
 have hs2:w1.heap.size=w2.heap.size:=by rw [←hw2];simp only [World.size_setCell]
 clear hw2
 rw [hs2] at hk5 ⊢
 refine boxed1 (w:=w2) (G:=fun x=>bodyPost _ _ _ _ _ x) ?_
 intro w3 hx3 hs3 ⟨_,_,_,k3⟩
 have hk6:=Hold.ext hk5 hx3
 refine bodyPost_ret (two1_results _ _ _ _ _ _ _ _ rfl (hk6.cell0 0) (hk6.cell0 1) (hk6.cell0 2) (hk6.cell0 3) (hk6.cell0 4)) rfl ?_
 exact ⟨hx2.trans hx3,w2.heap.size,rfl,hx2.le,k3⟩
theorem two_results (tmps : Array Value) (W : World) (b : Nat) (x u : Value) (t0 : tmps[0]? = some (.pointer (some ⟨b, 0, none⟩))) (t1 : tmps[1]? = some u) (c : W.cell? ⟨b, 0, none⟩ = some x) :
    (results Tryz.f75 tmps).run Tryz.prog W=.ok (.tuple #[.agg #[x],u]) W:=by
 simp [results,go_sem,t0,t1,c]
set_option maxHeartbeats 2000000 in
theorem two_any (w:World):Calls Tryz.prog 75 #[] w fun e w'=>Ext w w'∧∃ gx g0 g1 a0 a1 a2 gp gt,e=.returned (.tuple #[.agg #[.slice (some ⟨gp,0,none⟩) 2 2],.slice (some ⟨gt,0,none⟩) 2 2])∧(exSTM gx g0 g1 a0 a1 a2 gp).At w'∧(exSTD gt).At w':=by
 go_enter Tryz.func75,Tryz.ntmps75
 go_upto_region 1 with fail
 refine boxed1 (w:=w) (G:=fun x=>Code.wp _ _ _ _ x) ?_
 intro w1 hx1 hs1 ⟨l0,c0,f0,k0⟩
 have hx11:Ext w1 w1:=Ext.refl _
 have HS1:=Lib.hid hs1
 clear hs1
 go_upto_region 2 with fail
 refine boxed1 (w:=w1) (G:=fun x=>Code.wp _ _ _ _ x) ?_
 intro w2 hx2 hs2 ⟨_,_,_,k2⟩
 have HS2:=Lib.hid hs2
 clear hs2
 have hx12:=hx2
 go_wp2_with fail
 go_at_call 149
 refine (two1_any w2 1).mono ?_
 rintro e w3 ⟨hx3,a0,rfl,ha0,q0⟩
 have hx13:=hx12.trans hx3
 go_wp2_with fail
 go_at_call 149
 refine (two1_any w3 (-5)).mono ?_
 rintro e w4 ⟨hx4,a1,rfl,ha1,q1⟩
 have hx14:=hx13.trans hx4
 go_wp2_with fail
 go_at_call 149
 refine boxed1 (w:=w4) (G:=fun x=>Calls _ _ _ x _) ?_
 intro w5 hx5 hs5 ⟨_,_,_,k5⟩
 have hx15:=hx14.trans hx5
 clear hs5
 refine (two1_any w5 1).mono ?_
 rintro e w6 ⟨hx6,a2,rfl,ha2,q2⟩
 have hx16:=hx15.trans hx6
 go_upto_region 4 with fail
 refine boxed3 (w:=w6) (G:=fun x=>Code.wp _ _ _ _ x) ?_
 intro w7 hx7 hs7 ⟨_,_,_,k7⟩ ⟨_,_,_,k8⟩ ⟨l9,c9,f9,k9⟩
 have hx17:=hx16.trans hx7
 have hx17a:∀ o,Ext w1 (w7.alloc o):=fun o=>hx17.alloc' o
 have hx77:Ext w7 w7:=Ext.refl _
 have HS7:=Lib.hid hs7
 clear hs7
 go_wp2_with fail
 have e1:=HS1.out
 have e2:=HS2.out
 have l3:=hx3.le
 have l4:=hx4.le
 have l5:=hx5.le
 have l6:=hx6.le
 have x37:Ext w3 w7:=hx4.trans (hx5.trans (hx6.trans hx7))
 have x47:Ext w4 w7:=hx5.trans (hx6.trans hx7)
 have r0:=(Hold.ext (W:=w1) k0 hx17).set 0 (.slice (some ⟨w6.heap.size+1,0,none⟩) 2 2)
 have rx:=Hold.other (Hold.ext (W:=w2) k2 (hx3.trans x37)) ⟨w.heap.size,0,none⟩ (.slice (some ⟨w6.heap.size+1,0,none⟩) 2 2) (by show w1.heap.size≠w.heap.size;omega)
 have r1:=Hold.other (Hold.ext (W:=w5) k5 (hx6.trans hx7)) ⟨w.heap.size,0,none⟩ (.slice (some ⟨w6.heap.size+1,0,none⟩) 2 2) (by show w4.heap.size≠w.heap.size;omega)
 have r2:=Hold.other (W:=w7) k7 ⟨w.heap.size,0,none⟩ (.slice (some ⟨w6.heap.size+1,0,none⟩) 2 2) (by show w6.heap.size≠w.heap.size;omega)
 have r3:=Hold.other (Hold.ext q0 x37) ⟨w.heap.size,0,none⟩ (.slice (some ⟨w6.heap.size+1,0,none⟩) 2 2) (by show a0≠w.heap.size;omega)
 have r4:=Hold.other (Hold.ext q1 x47) ⟨w.heap.size,0,none⟩ (.slice (some ⟨w6.heap.size+1,0,none⟩) 2 2) (by show a1≠w.heap.size;omega)
 have r5:=Hold.other (Hold.ext q2 hx7) ⟨w.heap.size,0,none⟩ (.slice (some ⟨w6.heap.size+1,0,none⟩) 2 2) (by show a2≠w.heap.size;omega)
 have r6:=Hold.other (W:=w7) k8 ⟨w.heap.size,0,none⟩ (.slice (some ⟨w6.heap.size+1,0,none⟩) 2 2) (by show w6.heap.size+1≠w.heap.size;omega)
 have hx9:=(hx1.trans hx17).setCell (p:=⟨w.heap.size,0,none⟩) (by show w.heap.size≤w.heap.size;omega) (.slice (some ⟨w6.heap.size+1,0,none⟩) 2 2)
 generalize hw9:w7.setCell ⟨w.heap.size,0,none⟩ (.slice (some ⟨w6.heap.size+1,0,none⟩) 2 2)=w9 at r0 rx r1 r2 r3 r4 r5 r6 hx9 ⊢
 have hs9:w7.heap.size=w9.heap.size:=by rw [←hw9,World.size_setCell]
 rw [hs9]
 clear hw9
 refine boxed1 (w:=w9) (G:=fun x=>bodyPost _ _ _ _ _ x) ?_
 intro w8 hx8 hs8 ⟨_,_,_,k10⟩
 refine bodyPost_ret (two_results _ _ _ _ _ rfl rfl ((Hold.ext r0 hx8).cell0 0)) rfl ?_
 exact ⟨hx9.trans hx8,w1.heap.size,w4.heap.size,w6.heap.size,a0,a1,a2,w6.heap.size+1,w9.heap.size,rfl,exSTM_at (Hold.ext rx hx8) (Hold.ext r1 hx8) (Hold.ext r2 hx8) (Hold.ext r3 hx8) (Hold.ext r4 hx8) (Hold.ext r5 hx8) (Hold.ext r6 hx8),exSTD_at k10⟩
theorem exS_zero:ex39.sumAt exL (fun _=>0)=0:=by rw [exS_sum];rfl
theorem exS_nofault {c:Int} (h:ex39.SumFault exL c):c=0:=h.uniq (.inr (.inr (.inr (.inr (.inr ⟨exS_ok,rfl⟩)))))
theorem exmax_any (W : World) {gx g0 g1 a0 a1 a2 gp gt : Nat} (hT : (exSTM gx g0 g1 a0 a1 a2 gp).At W) (hD : (exSTD gt).At W) :
    Calls Tryz.prog 17 #[.agg #[.slice (some ⟨gp,0,none⟩) 2 2],.slice (some ⟨gt,0,none⟩) 2 2] W fun e w'=>Ext W w'∧∃ g,e=.returned (.tuple #[.int .i64 2,.slice (some ⟨g,0,none⟩) 2 2,.int .i64 0])∧NumAt w' 2 (some ⟨g,0,none⟩) g 0 (fun _=>1):=by
 refine (smax_any W _ hT _ hD).mono ?_
 rintro e w' ⟨hx,⟨c,hc,h0,_⟩ | ⟨_,v,c,g,he,hrow,_,hb⟩⟩
 ·exact absurd (exS_nofault hc) h0
 ·have hb' : ex39.Best 0 (ex39.wfn exL) v c := by
    have h1:ex39.Best (ex39.sumAt exL fun _=>0) (ex39.wfn exL) v c:=hb
    rw [exS_zero] at h1;exact h1
  obtain ⟨h1,h2⟩:=hb'.uniq exS_best
  subst h1
  refine ⟨hx,g,he,⟨by decide,fun _=>rfl,fun _=>hrow.lt,fun k hk=>?_⟩⟩
  have h3:=hrow.c k hk
  have h4:=h2 k hk
  rw [Nat.zero_add,h3,h4];rfl
theorem exmin_any (W : World) {gx g0 g1 a0 a1 a2 gp gt : Nat} (hT : (exSTM gx g0 g1 a0 a1 a2 gp).At W) (hD : (exSTD gt).At W) :
    Calls Tryz.prog 18 #[.agg #[.slice (some ⟨gp,0,none⟩) 2 2],.slice (some ⟨gt,0,none⟩) 2 2] W fun e w'=>Ext W w'∧∃ g,e=.returned (.tuple #[.int .i64 (-5),.slice (some ⟨g,0,none⟩) 2 2,.int .i64 0])∧NumAt w' 2 (some ⟨g,0,none⟩) g 0 (fun i=>if i=0 then 2 else 0):=by
 refine (smin_any W _ hT _ hD).mono ?_
 rintro e w' ⟨hx,⟨c,hc,h0,_⟩ | ⟨_,v,c,g,he,hrow,_,hb⟩⟩
 ·exact absurd (exS_nofault hc) h0
 ·have hb' : ex39.Best 0 (fun v => - ex39.wfn exL v) v c := by
    have h1:ex39.Best (- ex39.sumAt exL fun _=>0) (fun v=>- ex39.wfn exL v) v c:=hb
    rw [exS_zero] at h1;exact h1
  obtain ⟨h1,h2⟩:=hb'.uniq exS_least
  subst h1
  refine ⟨hx,g,he,⟨by decide,fun _=>rfl,fun _=>hrow.lt,fun k hk=>?_⟩⟩
  have h3:=hrow.c k hk
  have h4:=h2 k hk
  rw [Nat.zero_add,h3,h4]
  rcases ltS hk with rfl | rfl <;> rfl
theorem lit_num {w:World} {x y:Int} {t:TypeId} {v:Nat→Int} (h0:v 0=x) (h1:v 1=y):NumAt (w.alloc (.cells #[.int .i64 x,.int .i64 y] t)) 2 (some ⟨w.heap.size,0,none⟩) w.heap.size 0 v:=by
 have hb:=Box.of (w:=w.alloc (.cells #[.int .i64 x,.int .i64 y] t)) (b:=w.heap.size) (c:=#[.int .i64 x,.int .i64 y]) (t:=t) (by show (w.heap.push _)[w.heap.size]?=_;simp)
 refine ⟨by decide,fun _=>rfl,fun _=>by simp,fun k hk=>?_⟩
 rw [Nat.zero_add]
 rcases ltS hk with rfl | rfl
 ·rw [h0];exact hb.cell _ (Ext.refl _) 0
 ·rw [h1];exact hb.cell _ (Ext.refl _) 1
set_option maxHeartbeats 2000000 in
theorem awake39_any (w:World):Calls Tryz.prog 15 #[] w fun e w'=>e=.returned (.bool true)∧Ext w w':=by
 go_enter Tryz.func15,Tryz.ntmps15
 go_wp2_with fail
 go_at_call 75
 refine (two_any w).mono ?_
 rintro e w1 ⟨hx1,gx,g0,g1,a0,a1,a2,gp,gt,rfl,hT,hD⟩
 have HT:=Lib.hid (fun W (h:Ext w1 W)=>hT.ext h)
 have HD:=Lib.hid (fun W (h:Ext w1 W)=>hD.ext h)
 clear hT hD
 go_upto_region 2 with fail
 refine boxed1 (w:=w1) (G:=fun x=>Code.wp _ _ _ _ x) ?_
 intro w2 hx2 hs2 ⟨l2,c2,_,_⟩
 have hx22:Ext w2 w2:=Ext.refl _
 clear hs2
 go_wp2_with fail
 go_at_call 17
 refine (exmax_any w2 (HT.out _ hx2) (HD.out _ hx2)).mono ?_
 rintro e w3 ⟨hx3,gc,rfl,hn3⟩
 have hx13:=hx2.trans hx3
 have HN3:=Lib.hid hn3
 clear hn3
 go_wp2_with fail
 go_at_call 18
 refine (exmin_any w3 (HT.out _ hx13) (HD.out _ hx13)).mono ?_
 rintro e w4 ⟨hx4,gd,rfl,hn4⟩
 have hx14:=hx13.trans hx4
 have HN4:=Lib.hid hn4
 clear hn4 l2 c2 hx22
 go_wp2_with fail
 go_at_call 23
 refine (eqi_any _ _ _ gc 0 w4.heap.size 0 2 2 2 2 (fun _=>1) (fun _=>1) ((HN3.out.ext hx4).ext (Ext.alloc _ _)) (lit_num rfl rfl)).mono ?_
 rintro e w5 ⟨b5,rfl,hb5,hx5⟩
 obtain rfl:b5=true:=hb5.2 ⟨rfl,fun _ _=>rfl⟩
 have hx45:=(Ext.alloc w4 (.cells #[.int .i64 1,.int .i64 1] 3)).trans hx5
 clear hb5
 go_wp2_with fail
 go_at_call 23
 refine (eqi_any _ _ _ gd 0 w5.heap.size 0 2 2 2 2 (fun i=>if i=0 then 2 else 0) (fun i=>if i=0 then 2 else 0) ((HN4.out.ext hx45).ext (Ext.alloc _ _)) (lit_num rfl rfl)).mono ?_
 rintro e w6 ⟨b6,rfl,hb6,hx6⟩
 obtain rfl:b6=true:=hb6.2 ⟨rfl,fun _ _=>rfl⟩
 have hx56:=(Ext.alloc w5 (.cells #[.int .i64 2,.int .i64 0] 3)).trans hx6
 clear hb6
 go_wp2_with fail
 go_ret
 exact ⟨rfl,hx1.trans (hx14.trans (hx45.trans hx56))⟩
set_option maxHeartbeats 1000000 in
theorem rcut12_any (w : World) (T : TM) (hT : T.At w) (a : Option Addr) (g o n cap : Nat) (v : Nat → Int) (hC : NumAt w n a g o v) :
    Calls Tryz.prog 117 #[T.val,.slice a n cap] w (BoolPost (n=T.n∧T.toTr.InR T.n v) w):=by
 generalize hP:(n=T.n∧T.toTr.InR T.n v)=P
 have HP:=Lib.hid (show P↔(n=T.n∧T.toTr.InR T.n v) from by rw [←hP])
 clear hP
 have HT:=Lib.hid hT
 have HC:=Lib.hid hC
 have hn0:=hT.P.hn
 have hcn:=hC.hn
 obtain ⟨ta,hta⟩:∃ z,z=T.a:=⟨_,rfl⟩
 have HTA:=Lib.hid hta
 simp only [TM.val]
 rw [←hta]
 clear hT hC hta
 go_enter Tryz.func117,Tryz.ntmps117
 go_upto_region 1 with fail
 refine boxed1 (w:=w) (G:=fun x=>Code.wp _ _ _ _ x) ?_
 intro w1 hx1 hs1 ⟨l0,c0,_,_⟩
 have hx11:Ext w1 w1:=Ext.refl _
 clear hs1
 by_cases hnn:n=T.n
 case neg=>
  have d0:((n:Int) == (T.n:Int))=false:=by simpa using fun h:(n:Int)=T.n=>hnn (by omega)
  have d0':(n == T.n)=false:=by simpa using hnn
  go_wp2_with fail
  go_ret
  exact ⟨false,rfl,⟨fun h=>(by cases h),fun h=>absurd (HP.out.1 h).1 hnn⟩,hx1⟩
 subst hnn
 have d0:((T.n:Int) == (T.n:Int))=true:=by simp
 go_wp2_with fail
 go_loopg [5] T.n (fun gg v5 wr=>∃ k:Nat,k≤T.n∧gg=T.n - k∧v5=.int .i64 k∧Ext w1 wr∧∀ p,p<k→0≤v p∧v p≤T.en p)
 case atStart=>exact ⟨0,by omega,rfl,rfl,hx11,fun p h=>by omega⟩
 case round=>
  obtain ⟨k,hk,rfl,rfl,hxr,hall⟩:=hrel
  have HA:=Lib.hid hall
  have hxw:=hx1.trans hxr
  clear hall
  by_cases hlt:k<T.n
  ·have hlt':(k:Int)<(T.n:Int):=by omega
   obtain rfl:ta=some ⟨T.b,T.off,none⟩:=by rw [HTA.out];exact HT.out.P.pa (by omega)
   have hen:=HT.out.E.he k hlt
   have pb:=HT.out.P.pb (by omega)
   have p2:∀ w',Ext w w'→w'.cell? ⟨T.b,T.off+k*3+2,none⟩=some (.slice (T.ea k) (T.en k) (T.ec k)):=fun w' h=>HT.out.P.p2 w' h k hlt
   obtain rfl:=HC.out.pa (by omega)
   have gb:∀ w',Ext w w'→g<w'.heap.size:=fun w' x=>Nat.lt_of_lt_of_le (HC.out.pb (by omega)) x.le
   obtain ⟨vk,hvk⟩:∃ z,z=v k:=⟨_,rfl⟩
   have gc:∀ w',Ext w w'→w'.cell? ⟨g,o+k,none⟩=some (.int .i64 vk):=fun w' x=>by rw [hvk];exact x.cell (HC.out.c k hlt)
   have HVK:=Lib.hid hvk
   clear hvk
   by_cases h0:vk<0
   ·have d1:decide (vk<0)=true:=decide_eq_true h0
    go_upto_region 6 with fail
    go_quiet (fail)
    have hq:=hxw.drewN nq
    go_wp2_with fail
    go_ret
    exact ⟨false,rfl,⟨fun h=>(by cases h),fun h=>absurd ((HP.out.1 h).2 k hlt).1 (by rw [←HVK.out];omega)⟩,hq⟩
   ·have d1:decide (vk<0)=false:=decide_eq_false h0
    by_cases h1:(T.en k:Int)<vk
    ·have d2:decide ((T.en k:Int)<vk)=true:=decide_eq_true h1
     go_upto_region 6 with fail
     go_quiet (fail)
     have hq:=hxw.drewN nq
     go_wp2_with fail
     go_ret
     exact ⟨false,rfl,⟨fun h=>(by cases h),fun h=>absurd ((HP.out.1 h).2 k hlt).2 (by rw [←HVK.out];omega)⟩,hq⟩
    ·have d2:decide ((T.en k:Int)<vk)=false:=decide_eq_false h1
     go_upto_region 6 with fail
     go_quiet (fail)
     have hq:=hxr.drewN nq
     go_wp2_with fail
     go_roundg (T.n - (k+1))
     case rel=>exact ⟨k+1,by omega,rfl,by go_num,hq,fun p hp=>by
      by_cases e:p=k
      ·subst e;rw [←HVK.out];omega
      ·exact HA.out p (by omega)⟩
     case measure=>omega
  ·obtain rfl:k=T.n:=by omega
   go_wp2_with fail
   go_ret
   exact ⟨true,rfl,⟨fun _=>HP.out.2 ⟨by first | rfl | trivial,HA.out⟩,fun _=>rfl⟩,hxw⟩
set_option maxHeartbeats 4000000 in
theorem rcon12_any (w : World) (T : TM) (hT : T.At w) (hV : T.toTr.Valid) (a : Option Addr) (g o cap : Nat) (v : Nat → Int) (hC : NumAt w T.n a g o v) (hR : T.toTr.InR T.n v) :
    Calls Tryz.prog 166 #[T.val,.slice a T.n cap] w (BoolPost (T.toTr.ClC v) w):=by
 have HT:=Lib.hid hT
 have HV:=Lib.hid hV
 have HC:=Lib.hid hC
 have HR:=Lib.hid hR
 have hn8:=hV.n8
 have hn1:=hV.n1
 have HFI:=Lib.hid (fun W (h:Ext w W) m=>rfind_any W T (hT.ext h) (by omega) 2 m)
 obtain ⟨ta,hta⟩:∃ z,z=T.a:=⟨_,rfl⟩
 have HTA:=Lib.hid hta
 simp only [TM.val] at HFI ⊢
 rw [←hta] at HFI
 rw [←hta]
 clear hT hV hC hR hta
 go_enter Tryz.func166,Tryz.ntmps166
 go_upto_region 1 with fail
 refine boxed1 (w:=w) (G:=fun x=>Code.wp _ _ _ _ x) ?_
 intro w1 hx1 hs1 ⟨l0,c0,_,_⟩
 have hx11:Ext w1 w1:=Ext.refl _
 clear hs1
 go_wp2_with fail
 go_loopg [5] T.n (fun gg v5 wr=>∃ k:Nat,k≤T.n∧gg=T.n - k∧v5=.int .i64 k∧Ext w1 wr∧∀ x,T.toTr.V x→x.1<k→(x.2:Int)<v x.1→T.kind x.1 x.2=3→((T.toTr.sndN x).2:Int)<v (T.toTr.sndN x).1)
 case atStart=>exact ⟨0,by omega,rfl,rfl,hx11,fun x _ h=>by omega⟩
 case round=>
  obtain ⟨k,hk,rfl,rfl,hxr,hall⟩:=hrel
  have HA:=Lib.hid hall
  have hxw:=hx1.trans hxr
  clear hall
  by_cases hlt:k<T.n
  ·have hlt':(k:Int)<(T.n:Int):=by omega
   obtain rfl:ta=some ⟨T.b,T.off,none⟩:=by rw [HTA.out];exact HT.out.P.pa (by omega)
   have hen:=HV.out.en64 hlt
   have pb:=HT.out.P.pb (by omega)
   have p2:∀ w',Ext w w'→w'.cell? ⟨T.b,T.off+k*3+2,none⟩=some (.slice (T.ea k) (T.en k) (T.ec k)):=fun w' h=>HT.out.P.p2 w' h k hlt
   obtain rfl:=HC.out.pa (by omega)
   have gb:∀ w',Ext w w'→g<w'.heap.size:=fun w' x=>Nat.lt_of_lt_of_le (HC.out.pb (by omega)) x.le
   have hrk:=HR.out k hlt
   obtain ⟨ck,hck⟩:∃ ck:Nat,v k=ck:=⟨(v k).toNat,by omega⟩
   have gc:∀ w',Ext w w'→w'.cell? ⟨g,o+k,none⟩=some (.int .i64 (ck:Int)):=fun w' x=>by rw [←hck];exact x.cell (HC.out.c k hlt)
   rw [hck] at hrk
   have hck64:ck≤T.en k:=by omega
   have HCK:=Lib.hid hck
   clear hck
   obtain ⟨ea,hea⟩:∃ z,z=T.ea k:=⟨_,rfl⟩
   rw [←hea] at p2
   have HEA:=Lib.hid hea
   clear hea
   go_wp2_with fail
   go_loopg [6] ck (fun gg v6 wr=>∃ i:Nat,i≤ck∧gg=ck - i∧v6=.int .i64 i∧Ext w1 wr∧∀ x,T.toTr.V x→(x.1<k∨(x.1=k∧x.2<i))→(x.2:Int)<v x.1→T.kind x.1 x.2=3→((T.toTr.sndN x).2:Int)<v (T.toTr.sndN x).1)
   case atStart=>exact ⟨0,by omega,rfl,rfl,hxr,fun x hx h=>HA.out x hx (by omega)⟩
   case round=>
    obtain ⟨i,hi,rfl,rfl,hxi,hall⟩:=hrel
    have HA2:=Lib.hid hall
    have hxwi:=hx1.trans hxi
    clear hall
    by_cases hli:i<ck
    ·have hli':(i:Int)<(ck:Int):=by omega
     have hie:i<T.en k:=by omega
     have hie':(i:Int)<(T.en k:Int):=by omega
     obtain rfl:ea=some ⟨T.eb k,T.eo k,none⟩:=by rw [HEA.out];exact HT.out.E.ea k hlt (by omega)
     have eb:=HT.out.E.eb k hlt (by omega)
     have e0:∀ w',Ext w w'→w'.cell? ⟨T.eb k,T.eo k+i*5,none⟩=some (.int .i64 (T.kind k i)):=fun w' x=>HT.out.E.e0 w' x k i hlt hie
     have e1:∀ w',Ext w w'→w'.cell? ⟨T.eb k,T.eo k+i*5+1,none⟩=some (.int .i64 (T.peer k i)):=fun w' x=>HT.out.E.e1 w' x k i hlt hie
     have e2:∀ w',Ext w w'→w'.cell? ⟨T.eb k,T.eo k+i*5+2,none⟩=some (.int .i64 (T.msg k i)):=fun w' x=>HT.out.E.e2 w' x k i hlt hie
     have e3:∀ w',Ext w w'→w'.cell? ⟨T.eb k,T.eo k+i*5+3,none⟩=some (.int .i64 (T.time k i)):=fun w' x=>HT.out.E.e3 w' x k i hlt hie
     have e4:∀ w',Ext w w'→w'.cell? ⟨T.eb k,T.eo k+i*5+4,none⟩=some (.slice (T.aa k i) (T.an k i) (T.ac k i)):=fun w' x=>HT.out.E.e4 w' x k i hlt hie
     obtain ⟨kd,hkd⟩:∃ z,z=T.kind k i:=⟨_,rfl⟩
     rw [←hkd] at e0
     have HKD:=Lib.hid hkd
     clear hkd
     go_upto_region 8 with fail
     refine boxed1 (w:=wr) (G:=fun x=>Code.wp _ _ _ _ x) ?_
     intro w4 hx4 hs4 ⟨l4,c4,_,_⟩
     have hx44:Ext w4 w4:=Ext.refl _
     have hx14:=hxi.trans hx4
     have hxw4:=hx1.trans hx14
     clear hs4 e0 e1 e2 e3 e4 eb
     by_cases h3:kd=3
     ·subst h3
      obtain ⟨⟨sp,si⟩,hsn⟩:∃ s,s=T.toTr.sndN (k,i):=⟨_,rfl⟩
      have hsv:=Tr.sndN_V (T:=T.toTr) (y:=(k,i)) ⟨hlt,hie⟩
      rw [←hsn] at hsv
      have hsp:sp<T.n:=hsv.1
      have hsi:si<T.en sp:=hsv.2
      have hse:=HV.out.en64 hsp
      have hFi:Calls Tryz.prog 165 #[.agg #[.slice (some ⟨T.b,T.off,none⟩) T.n T.cap],.int .i64 2,.int .i64 (T.msg k i)] w4 fun e w'=>e=.returned (.agg #[.int .i64 sp,.int .i64 (si+1)])∧Ext w4 w':=by
       have h1:=HFI.out w4 hxw4 (T.msg k i)
       have h2:=Tr.Pre.first_snd (T:=T.toTr) (Tr.valid_iff.1 HV.out).1 ⟨(k,i),hlt,hie⟩ HKD.out.symm
       rw [h2,←Tr.sndN_eq,←hsn] at h1
       exact h1
      have HSN:=Lib.hid hsn
      have hrs:=HR.out sp hsp
      obtain ⟨cs,hcs⟩:∃ z:Int,z=v sp:=⟨_,rfl⟩
      have gs:∀ w',Ext w w'→w'.cell? ⟨g,o+sp,none⟩=some (.int .i64 cs):=fun w' x=>by rw [hcs];exact x.cell (HC.out.c sp hsp)
      have HCS:=Lib.hid hcs
      have hsp':(sp:Int)<(T.n:Int):=by omega
      clear hsn hsv hcs
      go_upto_region 10 with (go_at_call 165;refine hFi.mono ?_;rintro e w5 ⟨rfl,hx5⟩;have hx45:Ext w4 w5:=hx5)
      refine boxed1 (w:=w5) (G:=fun x=>Code.wp _ _ _ _ x) ?_
      intro w6 hx6 hs6 ⟨l6,c6,_,_⟩
      have hx46:=hx45.trans hx6
      have hx16:=hx14.trans hx46
      have hxw6:=hxw4.trans hx46
      have hx66:Ext w6 w6:=Ext.refl _
      clear hs6 hFi
      by_cases hgt:cs<(si:Int)+1
      ·have d1:decide (cs<(si:Int)+1)=true:=decide_eq_true hgt
       go_quiet (fail)
       have hq:=hxw6.drewN nq
       go_wp2_with fail
       go_ret
       refine ⟨false,rfl,⟨fun h=>(by cases h),fun h=>?_⟩,hq⟩
       exfalso
       have h9:=h (k,i) ⟨hlt,hie⟩ (by rw [HCK.out];exact hli') HKD.out.symm
       rw [←HSN.out] at h9
       dsimp only at h9
       rw [←HCS.out] at h9
       omega
      ·have d1:decide (cs<(si:Int)+1)=false:=decide_eq_false hgt
       go_quiet (fail)
       have hq:=hx16.drewN nq
       go_wp2_with fail
       go_roundg (ck - (i+1))
       case rel=>exact ⟨i+1,by omega,rfl,by go_num,hq,fun x hx h1 h2 h4=>by
        by_cases e:x=(k,i)
        ·subst e
         rw [←HSN.out]
         dsimp only
         rw [←HCS.out];omega
        ·refine HA2.out x hx ?_ h2 h4
         rcases h1 with h1 | ⟨h1,h5⟩
         ·exact .inl h1
         ·refine .inr ⟨h1,?_⟩
          have h6:x.2≠i:=fun h7=>e (Prod.ext h1 h7)
          omega⟩
       case measure=>omega
     ·have d1:(kd == 3)=false:=by simpa using h3
      go_wp2_with fail
      go_roundg (ck - (i+1))
      case rel=>exact ⟨i+1,by omega,rfl,by go_num,hx14,fun x hx h1 h2 h4=>by
       by_cases e:x=(k,i)
       ·subst e
        exact absurd (HKD.out.trans h4) h3
       ·refine HA2.out x hx ?_ h2 h4
        rcases h1 with h1 | ⟨h1,h5⟩
        ·exact .inl h1
        ·refine .inr ⟨h1,?_⟩
         have h6:x.2≠i:=fun h7=>e (Prod.ext h1 h7)
         omega⟩
      case measure=>omega
    ·obtain rfl:i=ck:=by omega
     go_wp2_with fail
     go_roundg (T.n - (k+1))
     case rel=>exact ⟨k+1,by omega,rfl,by go_num,hxi,fun x hx h1 h2=>HA2.out x hx (by
      rcases Nat.lt_or_ge x.1 k with h | h
      ·exact .inl h
      ·have e:x.1=k:=by omega
       refine .inr ⟨e,?_⟩
       rw [e,HCK.out] at h2;omega) h2⟩
     case measure=>omega
  ·obtain rfl:k=T.n:=by omega
   go_wp2_with fail
   go_ret
   exact ⟨true,rfl,⟨fun _ x hx=>HA.out x hx hx.1,fun _=>rfl⟩,hxw⟩
set_option maxHeartbeats 1000000 in
theorem ris23_any (w : World) (T : TM) (hT : T.At w) (hV : T.toTr.Valid) (a : Option Addr) (g o n cap : Nat) (v : Nat → Int) (hC : NumAt w n a g o v) :
    Calls Tryz.prog 93 #[T.val,.slice a n cap] w (BoolPost (T.toTr.IsCut n v) w):=by
 have HC1:=Lib.hid (fun W (h:Ext w W)=>rcut12_any W T (hT.ext h) a g o n cap v (hC.ext h))
 have HC2:=Lib.hid (fun W (h:Ext w W) (hn:n=T.n) (hR:T.toTr.InR T.n v)=>(show Calls Tryz.prog 166 #[T.val,.slice a n cap] W (BoolPost (T.toTr.ClC v) W) from by
  subst hn;exact rcon12_any W T (hT.ext h) hV a g o cap v (hC.ext h) hR))
 have HV:=Lib.hid hV
 simp only [TM.val] at HC1 HC2 ⊢
 clear hT hC hV
 go_enter Tryz.func93,Tryz.ntmps93
 go_upto_region 1 with fail
 refine boxed1 (w:=w) (G:=fun x=>Code.wp _ _ _ _ x) ?_
 intro w1 hx1 hs1 ⟨l0,c0,_,_⟩
 have hx11:Ext w1 w1:=Ext.refl _
 clear hs1
 go_wp2_with fail
 go_at_call 117
 refine (HC1.out w1 hx1).mono ?_
 rintro e w2 ⟨b,rfl,hb,hx2⟩
 have HB:=Lib.hid hb
 have hxw2:=hx1.trans hx2
 clear hb
 cases b with
 | false =>
  go_wp2_with fail
  go_ret
  exact ⟨false,rfl,⟨fun h=>(by cases h),fun h=>absurd (HB.out.2 ⟨h.1.2,h.2.1⟩) (by decide)⟩,hxw2⟩
 | true =>
  have HR:=Lib.hid (HB.out.1 (by first | rfl | trivial))
  have hc2:=HC2.out w2 hxw2 HR.out.1 HR.out.2
  go_wp2_with fail
  go_at_call 166
  refine hc2.mono ?_
  rintro e w3 ⟨b,rfl,hb,hx3⟩
  have HB2:=Lib.hid hb
  have hxw3:=hxw2.trans hx3
  clear hb hc2
  go_wp2_with fail
  go_ret
  exact ⟨b,rfl,⟨fun h=>⟨⟨HV.out,HR.out.1⟩,HR.out.2,HB2.out.1 h⟩,fun h=>HB2.out.2 h.2.2⟩,hxw3⟩
set_option maxHeartbeats 1000000 in
theorem rcut39_any (w : World) (T : TM) (hT : T.At w) (hV : T.toTr.Valid) (a : Option Addr) (g o n cap : Nat) (v : Nat → Int) (hC : NumAt w n a g o v) :
    Calls Tryz.prog 30 #[T.val,.slice a n cap] w (BoolPost (T.toTr.IsCut n v) w):=by
 have HC1:=Lib.hid (fun W (h:Ext w W)=>ris23_any W T (hT.ext h) hV a g o n cap v (hC.ext h))
 simp only [TM.val] at HC1 ⊢
 clear hT hC hV
 go_enter Tryz.func30,Tryz.ntmps30
 go_upto_region 1 with fail
 refine boxed1 (w:=w) (G:=fun x=>Code.wp _ _ _ _ x) ?_
 intro w1 hx1 hs1 ⟨l0,c0,_,_⟩
 have hx11:Ext w1 w1:=Ext.refl _
 clear hs1
 go_wp2_with fail
 go_at_call 93
 refine (HC1.out w1 hx1).mono ?_
 rintro e w2 ⟨b,rfl,hb,hx2⟩
 have HB:=Lib.hid hb
 have hxw2:=hx1.trans hx2
 clear hb
 go_wp2_with fail
 go_ret
 exact ⟨b,rfl,HB.out,hxw2⟩
end Go.Proofs.YtnknkkmdbnaglaaGreat
