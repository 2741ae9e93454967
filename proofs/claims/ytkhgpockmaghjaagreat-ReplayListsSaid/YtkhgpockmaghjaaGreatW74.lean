/- Contracts and laws in plain Lean for RLis: group W74. -/
import Derived.Test.YtkhgpockmaghjaaGreatW73
import Derived.Test.YtkhgpockmaghjaaGreatW38
import Derived.Test.YtkhgpockmaghjaaGreatW50
import Derived.Test.YtkhgpockmaghjaaGreatW65
set_option maxRecDepth 100000
namespace Go.Proofs.YtkhgpockmaghjaaGreat
open Go.RowKit Go.Shelf
attribute [local go_sem] Oper.semAt_some
set_option maxHeartbeats 4000000 in
theorem rpermitted_any (w : World) (T : TM) (hT : T.At w) (hV : T.toTr.Valid) (D : SyD) (hD : D.At w) (hL : SynOk T.toTr D.l) (a : Option Addr) (g o cap : Nat) (v : Nat → Int) (hC : NumAt w T.n a g o v) (hR : T.toTr.InR T.n v) :
    Calls Tryz.prog 62 #[T.val,.slice D.s.a D.s.n D.s.c,.slice a T.n cap] w (BoolPost (T.toTr.ClC v∧PerP D.l v) w):=by
 have hn8:=hV.n8
 have hn1:=hV.n1
 have hdn:=hD.hn
 have HD:=Lib.hid hD
 have HL:=Lib.hid hL
 have HC:=Lib.hid hC
 have HCO:=Lib.hid (fun W (h:Ext w W)=>rcon12_any W T (hT.ext h) hV a g o cap v (hC.ext h) hR)
 have HEN:=Lib.hid (fun p (hp:p<T.n)=>hV.en64 hp)
 obtain rfl:=hC.pa (by omega)
 obtain ⟨ta,hta⟩:∃ z,z=T.a:=⟨_,rfl⟩
 obtain ⟨da,hda⟩:∃ z,z=D.s.a:=⟨_,rfl⟩
 obtain ⟨dn,hdn'⟩:∃ z,z=D.s.n:=⟨_,rfl⟩
 have HDN:=Lib.hid (And.intro hda hdn')
 simp only [TM.val,←hta] at HCO ⊢
 rw [←hdn'] at hdn
 rw [←hda,←hdn']
 clear hT hV hD hL hC hR hta hda hdn'
 go_enter Tryz.func62,Tryz.ntmps62
 go_upto_region 1 with fail
 refine boxed1 (w:=w) (G:=fun x=>Code.wp _ _ _ _ x) ?_
 intro w1 hx1 hs1 ⟨l0,c0,_,_⟩
 have hx11:Ext w1 w1:=Ext.refl _
 clear hs1
 go_wp2_with fail
 go_at_call 97
 refine (HCO.out w1 hx1).mono ?_
 rintro e w2 ⟨b,rfl,hb,hx2⟩
 have hxw2:=hx1.trans hx2
 cases b with
 | false =>
  have HN:=Lib.hid (show ¬T.toTr.ClC v from fun h=>absurd (hb.2 h) (by decide))
  clear hb
  go_wp2_with fail
  go_ret
  exact ⟨false,rfl,⟨fun h=>(by cases h),fun h=>absurd h.1 HN.out⟩,hxw2⟩
 | true =>
 have HCL:=Lib.hid (hb.1 rfl)
 clear hb
 go_wp2_with fail
 go_loopg [7] dn (fun gg v7 wr=>∃ k:Nat,k≤dn∧gg=dn - k∧v7=.int .i64 k∧Ext w1 wr∧∀ i,i<k→brk v (D.at i)=false)
 case atStart=>exact ⟨0,by omega,rfl,rfl,hx2,fun i h=>absurd h (Nat.not_lt_zero _)⟩
 case round=>
  obtain ⟨k,hk,rfl,rfl,hx1r,hno⟩:=hrel
  have HN:=Lib.hid hno
  have hxwr:=hx1.trans hx1r
  clear hno hx2 hxw2
  by_cases hlt:k<dn
  case neg=>
   obtain rfl:dn=k:=by omega
   have HP:=Lib.hid (show PerP D.l v from brk_iff.2 fun s hs=>by
    obtain ⟨i,hi,rfl⟩:=SyD.mem.1 hs
    exact HN.out i (by rw [HDN.out.2];exact hi))
   go_wp2_with fail
   go_ret
   exact ⟨true,rfl,⟨fun _=>⟨HCL.out,HP.out⟩,fun _=>rfl⟩,hxwr⟩
  have hlt':(k:Int)<(dn:Int):=by omega
  have hkD:k<D.s.n:=by rw [←HDN.out.2];exact hlt
  obtain rfl:da=_:=HDN.out.1.trans (HD.out.ha (by omega))
  have pb:∀ w',Ext w w'→D.s.b<w'.heap.size:=fun w' y=>Nat.lt_of_lt_of_le (HD.out.hb (by omega)) y.le
  have hg0:∀ d os,Ext w (Sort.grow (redrawn wr d) os):=fun d os=>hxwr.trans (below_regrown wr d os)
  have hg1:∀ d os,Ext w1 (Sort.grow (redrawn wr d) os):=fun d os=>hx1r.trans (below_regrown wr d os)
  obtain ⟨⟨xp,xi⟩,⟨yp,yi⟩,hxV,hyV,hxy⟩:=HL.out.nn (SyD.mem.2 ⟨k,hkD,rfl⟩)
  have hxe:D.x k=((xp:Int),(xi:Int)+1):=congrArg Prod.fst hxy
  have hye:D.y k=((yp:Int),(yi:Int)+1):=congrArg Prod.snd hxy
  have p0:∀ w',Ext w w'→w'.cell? ⟨D.s.b,D.s.o+k*4,none⟩=some (.int .i64 (xp:Nat)):=fun w' y=>by have:=HD.out.c0 k hkD;rw [hxe] at this;exact y.cell this
  have p1:∀ w',Ext w w'→w'.cell? ⟨D.s.b,D.s.o+k*4+1,none⟩=some (.int .i64 ((xi:Nat)+1)):=fun w' y=>by have:=HD.out.c1 k hkD;rw [hxe] at this;exact y.cell this
  have p2:∀ w',Ext w w'→w'.cell? ⟨D.s.b,D.s.o+k*4+2,none⟩=some (.int .i64 (yp:Nat)):=fun w' y=>by have:=HD.out.c2 k hkD;rw [hye] at this;exact y.cell this
  have p3:∀ w',Ext w w'→w'.cell? ⟨D.s.b,D.s.o+k*4+3,none⟩=some (.int .i64 ((yi:Nat)+1)):=fun w' y=>by have:=HD.out.c3 k hkD;rw [hye] at this;exact y.cell this
  have hxp:xp<T.n:=hxV.1
  have hyp:yp<T.n:=hyV.1
  have hxp':(xp:Int)<(T.n:Int):=by omega
  have hyp':(yp:Int)<(T.n:Int):=by omega
  have hwx:IntKind.i64.wrap (xp:Int)=(xp:Int):=IntWalk.i64_in _ (by omega)
  have hwy:IntKind.i64.wrap (yp:Int)=(yp:Int):=IntWalk.i64_in _ (by omega)
  obtain ⟨vx,hvx⟩:∃ z,z=v xp:=⟨_,rfl⟩
  obtain ⟨vy,hvy⟩:∃ z,z=v yp:=⟨_,rfl⟩
  have qb:∀ w',Ext w w'→g<w'.heap.size:=fun w' y=>Nat.lt_of_lt_of_le (HC.out.pb (by omega)) y.le
  have qx:∀ w',Ext w w'→w'.cell? ⟨g,o+xp,none⟩=some (.int .i64 vx):=fun w' y=>by rw [hvx];exact y.cell (HC.out.c xp hxp)
  have qy:∀ w',Ext w w'→w'.cell? ⟨g,o+yp,none⟩=some (.int .i64 vy):=fun w' y=>by rw [hvy];exact y.cell (HC.out.c yp hyp)
  have HBR:=Lib.hid (show brk v (D.at k)=(decide ((yi:Int)+1≤vy) && decide (vx<(xi:Int)+1)) from by
   rw [hxy];unfold brk;rw [hvx,hvy];rfl)
  have HMM:=Lib.hid (show D.at k∈D.l from SyD.mem.2 ⟨k,hkD,rfl⟩)
  clear hxV hyV hxy hxe hye hvx hvy
  by_cases d1:(yi:Int)+1≤vy
  case neg=>
   have e1:decide ((yi:Int)+1≤vy)=false:=decide_eq_false d1
   have HBK:=Lib.hid (show brk v (D.at k)=false from by rw [HBR.out,e1];rfl)
   have HN2:=Lib.hid (show ∀ i,i<k+1→brk v (D.at i)=false from fun i hi=>by
    by_cases e:i=k
    ·subst e;exact HBK.out
    ·exact HN.out i (by omega))
   go_upto_region 6 with fail
   refine wp_region_quiet_below (by kernel_rfl) (by kernel_rfl) ?_
   repeat (go_big_quiet_step (fail))
   refine wpQuiet_nil ?_
   intro _ hw'
   obtain ⟨⟨dq,osq⟩,hw''⟩:=hw'
   subst hw''
   have hx2:=hg1 dq osq
   have hxw2:=hg0 dq osq
   clear hg0 hg1
   generalize Sort.grow (redrawn wr dq) osq=w2 at hx2 hxw2 ⊢
   go_wp2_with fail
   go_roundg (dn - (k+1))
   case rel=>exact ⟨k+1,by omega,rfl,by go_num,hx2,HN2.out⟩
   case measure=>omega
  have e1:decide ((yi:Int)+1≤vy)=true:=decide_eq_true d1
  by_cases d2:vx<(xi:Int)+1
  case neg=>
   have e2:decide (vx<(xi:Int)+1)=false:=decide_eq_false d2
   have HBK:=Lib.hid (show brk v (D.at k)=false from by rw [HBR.out,e1,e2];rfl)
   have HN2:=Lib.hid (show ∀ i,i<k+1→brk v (D.at i)=false from fun i hi=>by
    by_cases e:i=k
    ·subst e;exact HBK.out
    ·exact HN.out i (by omega))
   go_upto_region 6 with fail
   refine wp_region_quiet_below (by kernel_rfl) (by kernel_rfl) ?_
   repeat (go_big_quiet_step (fail))
   refine wpQuiet_nil ?_
   intro _ hw'
   obtain ⟨⟨dq,osq⟩,hw''⟩:=hw'
   subst hw''
   have hx2:=hg1 dq osq
   have hxw2:=hg0 dq osq
   clear hg0 hg1
   generalize Sort.grow (redrawn wr dq) osq=w2 at hx2 hxw2 ⊢
   go_wp2_with fail
   go_roundg (dn - (k+1))
   case rel=>exact ⟨k+1,by omega,rfl,by go_num,hx2,HN2.out⟩
   case measure=>omega
  have e2:decide (vx<(xi:Int)+1)=true:=decide_eq_true d2
  have HNP:=Lib.hid (show ¬PerP D.l v from fun h=>by
   have:=brk_iff.1 h _ HMM.out
   rw [HBR.out,e1,e2] at this
   cases this)
  go_upto_region 6 with fail
  refine wp_region_quiet_below (by kernel_rfl) (by kernel_rfl) ?_
  repeat (go_big_quiet_step (fail))
  refine wpQuiet_nil ?_
  intro _ hw'
  obtain ⟨⟨dq,osq⟩,hw''⟩:=hw'
  subst hw''
  have hx2:=hg1 dq osq
  have hxw2:=hg0 dq osq
  clear hg0 hg1
  generalize Sort.grow (redrawn wr dq) osq=w2 at hx2 hxw2 ⊢
  go_wp2_with fail
  go_ret
  exact ⟨false,rfl,⟨fun h=>(by cases h),fun h=>absurd h.2 HNP.out⟩,hxw2⟩
def CutFlt (T:Tr) (L:List Syn) (n:Nat) (v:Nat→Int) (r:Int):Prop:=
 ∃ q,PFault T L (n=T.n) (¬T.InR T.n v) q∧((q≠0∧r=q)∨(q=0∧T.ClC v∧PerP L v∧r=0)∨(q=0∧¬(T.ClC v∧PerP L v)∧r=18))
set_option maxHeartbeats 4000000 in
theorem rcutfault_any (w : World) (T : TM) (hT : T.At w) (D : SyD) (hD : D.At w) (a : Option Addr) (g o n cap : Nat) (v : Nat → Int) (hC : NumAt w n a g o v) :
    Calls Tryz.prog 18 #[T.val,.slice D.s.a D.s.n D.s.c,.slice a n cap] w (fun e w'=>Ext w w'∧∃ r:Int,e=.returned (.int .i64 r)∧CutFlt T.toTr D.l n v r):=by
 have hnn:=hC.hn
 have hTn:=hT.P.hn
 have HVL:=Lib.hid (fun W (h:Ext w W)=>rvalid_any W T (hT.ext h))
 have HCU:=Lib.hid (fun W (h:Ext w W)=>rcut12_any W T (hT.ext h) a g o n cap v (hC.ext h))
 have HFL:=Lib.hid (fun W (h:Ext w W) b=>rfault45_any W T (hT.ext h) D (hD.ext h) b)
 have HPE:=Lib.hid (fun W (h:Ext w W) hV hL (e:n=T.n) hR=>(show Calls Tryz.prog 62 #[T.val,.slice D.s.a D.s.n D.s.c,.slice a n cap] W (BoolPost (T.toTr.ClC v∧PerP D.l v) W) from by
  subst e
  exact rpermitted_any W T (hT.ext h) hV D (hD.ext h) hL a g o cap v (hC.ext h) hR))
 obtain ⟨ta,hta⟩:∃ z,z=T.a:=⟨_,rfl⟩
 obtain ⟨da,hda⟩:∃ z,z=D.s.a:=⟨_,rfl⟩
 obtain ⟨dn,hdn'⟩:∃ z,z=D.s.n:=⟨_,rfl⟩
 obtain ⟨m,hm⟩:∃ z,z=T.n:=⟨_,rfl⟩
 have HM:=Lib.hid hm
 simp only [TM.val,←hta] at HVL HCU HFL HPE ⊢
 rw [←hda,←hdn'] at HFL HPE
 rw [←hm] at hTn
 rw [←hda,←hdn']
 have e0:Value.slice ta T.n T.cap=.slice ta m T.cap:=by rw [hm]
 rw [e0] at HVL HCU HFL HPE ⊢
 clear hT hD hC hta hda hdn' hm e0
 go_enter Tryz.func18,Tryz.ntmps18
 go_upto_region 1 with fail
 refine boxed1 (w:=w) (G:=fun x=>Code.wp _ _ _ _ x) ?_
 intro w1 hx1 hs1 ⟨l0,c0,_,_⟩
 have hx11:Ext w1 w1:=Ext.refl _
 clear hs1
 go_wp2_with fail
 go_at_call 30
 refine (HVL.out w1 hx1).mono ?_
 rintro e w2 ⟨bv,rfl,hbv,hx2⟩
 have hxw2:=hx1.trans hx2
 cases bv with
 | false =>
  have HF:=Lib.hid (show CutFlt T.toTr D.l n v 1 from ⟨1,.inl ⟨.inl ⟨fun h=>absurd (hbv.2 h.1) (by decide),rfl⟩,by decide⟩,.inl ⟨by decide,rfl⟩⟩)
  clear hbv
  go_wp2_with fail
  go_ret
  exact ⟨hxw2,_,rfl,HF.out⟩
 | true =>
 have HV:=Lib.hid (hbv.1 rfl)
 clear hbv
 by_cases hnm:n=m
 case neg=>
  have d0:((n:Int) == (m:Int))=false:=by simpa using fun h:(n:Int)=m=>hnm (by omega)
  have d0':(n == m)=false:=by simpa using hnm
  have d0'':((n:Int) != (m:Int))=true:=by simp;omega
  have HF:=Lib.hid (show CutFlt T.toTr D.l n v 1 from ⟨1,.inl ⟨.inl ⟨fun h=>hnm (by rw [HM.out];exact h.2),rfl⟩,by decide⟩,.inl ⟨by decide,rfl⟩⟩)
  go_wp2_with fail
  go_ret
  exact ⟨hxw2,_,rfl,HF.out⟩
 subst hnm
 have d0:((n:Int) == (n:Int))=true:=by simp
 have hx12:=hx2
 clear hx2
 go_wp2_with fail
 refine wp_region_held_drew (S:=fun w'=>Ext w2 w') (by kernel_rfl) (Ext.refl _).drew (fun hHeld=>?_)
 refine hQ 0 (v:=?_) rfl (y:=.inl ⟨by rfl,?_⟩) (h:=?_)
 rotate_left
 ·(intro w' hSw;(try dsimp only at hSw);have hSS:=Ext.refl w';have hS1:=hx12.trans hSw;go_simp;try with_reducible rfl)
 try simp only [Act.put,zA,zB,zC]
 refine hQ 1 (v:=?_) rfl (y:=.inl ⟨by rfl,?_⟩) (h:=?_)
 rotate_left
 ·(intro w' hSw;(try dsimp only at hSw);have hSS:=Ext.refl w';have hS1:=hx12.trans hSw;go_simp;try with_reducible rfl)
 try simp only [Act.put,zA,zB,zC]
 refine hQ 2 (v:=?_) rfl (y:=.inl ⟨by rfl,?_⟩) (h:=?_)
 rotate_left
 ·(intro w' hSw;(try dsimp only at hSw);have hSS:=Ext.refl w';have hS1:=hx12.trans hSw;go_simp;try with_reducible rfl)
 try simp only [Act.put,zA,zB,zC]
 refine hQ 3 (v:=?_) rfl (y:=.inl ⟨by rfl,?_⟩) (h:=?_)
 rotate_left
 ·(intro w' hSw;(try dsimp only at hSw);have hSS:=Ext.refl w';have hS1:=hx12.trans hSw;go_simp;try with_reducible rfl)
 try simp only [Act.put,zA,zB,zC]
 refine wpAnyH_ready (rs:=[4]) (by kernel_rfl) (by simp) ?_
 refine AllReadyH.cons rfl (fun K hK=>?_) AllReadyH.nil
 go_simp
 go_at_call 61
 refine (HCU.out w2.drew hxw2.drew).mono ?_
 rintro e w3 ⟨bc,rfl,hbc,hx3⟩
 have HBC:=Lib.hid (show ¬T.toTr.InR T.n v↔(!bc)=true from by
  constructor
  ·intro h
   cases bc with
   | false => rfl
   | true => exact absurd (hbc.1 rfl).2 h
  ·intro h h2
   have:=hbc.2 ⟨HM.out,h2⟩
   rw [this] at h;cases h)
 have hx23:Ext w2 w3:=(Ext.refl w2).drew.trans hx3
 refine hK.out _ _ hx23 (fun hHeld2=>?_)
 clear hK K hbc hx3 hHeld
 try simp only [Act.put]
 refine hQ 5 (v:=?_) rfl (y:=.inl ⟨by rfl,?_⟩) (h:=?_)
 rotate_left
 ·(intro w' hSw;(try dsimp only at hSw);have hSS:=Ext.refl w';have hS1:=hx12.trans hSw;go_simp;try with_reducible rfl)
 try simp only [Act.put,zA,zB,zC]
 refine wpAnyH_ready (rs:=[6]) (by kernel_rfl) (by simp) ?_
 refine AllReadyH.cons rfl (fun K hK=>?_) AllReadyH.nil
 go_simp
 go_at_call 13
 refine (HFL.out w3 (hxw2.trans hx23) (!bc)).mono ?_
 rintro e w4 ⟨hx4,r,rfl,hf⟩
 have hx24:=hx23.trans hx4
 have hxw4:=hxw2.trans hx24
 have HFF:=Lib.hid (show PFault T.toTr D.l (n=T.n) (¬T.toTr.InR T.n v) r from hf.congr ⟨fun _=>HM.out,fun _=>trivial⟩ HBC.out.symm)
 refine hK.out _ _ hx24 (fun hHeld3=>?_)
 clear hK K hf hx4 hHeld2
 try simp only [Act.put]
 refine hQ 7 (v:=?_) rfl (y:=.inl ⟨by rfl,?_⟩) (h:=?_)
 rotate_left
 ·(intro w' hSw;(try dsimp only at hSw);have hSS:=Ext.refl w';go_simp;try with_reducible rfl)
 try simp only [Act.put,List.setIfInBounds_toArray]
 refine wpAnyH_done (by kernel_rfl) ?_ _
 have hx14:=hx12.trans hx24
 clear hHeld3 hx23 hx24
 by_cases h0:r=0
 case neg=>
  have d1:(r == 0)=false:=by simpa using h0
  have d1':(r != 0)=true:=by simpa using h0
  have HF:=Lib.hid (show CutFlt T.toTr D.l n v r from ⟨r,HFF.out,.inl ⟨h0,rfl⟩⟩)
  clear h0
  go_wp2_with fail
  go_ret
  exact ⟨hxw4,_,rfl,HF.out⟩
 subst h0
 have hok:=HFF.out.ok
 have hp:=HPE.out w4 hxw4 hok.1.1 hok.2.2.1 hok.1.2 (Classical.byContradiction hok.2.2.2.1)
 clear hok
 go_wp2_with fail
 go_at_call 62
 refine hp.mono ?_
 rintro e w5 ⟨b,rfl,hb,hx5⟩
 have hxw5:=hxw4.trans hx5
 clear hp
 cases b with
 | true =>
  have HF:=Lib.hid (show CutFlt T.toTr D.l n v 0 from ⟨0,HFF.out,.inr (.inl ⟨rfl,(hb.1 rfl).1,(hb.1 rfl).2,rfl⟩)⟩)
  clear hb
  go_wp2_with fail
  go_ret
  exact ⟨hxw5,_,rfl,HF.out⟩
 | false =>
  have HF:=Lib.hid (show CutFlt T.toTr D.l n v 18 from ⟨0,HFF.out,.inr (.inr ⟨rfl,fun h=>absurd (hb.2 h) (by decide),rfl⟩)⟩)
  clear hb
  go_wp2_with fail
  go_ret
  exact ⟨hxw5,_,rfl,HF.out⟩
set_option maxHeartbeats 4000000 in
theorem rnext45_any (w : World) (T : TM) (hT : T.At w) (hV : T.toTr.Valid) (D : SyD) (hD : D.At w) (hL : SynOk T.toTr D.l) (a : Option Addr) (g o cap : Nat) (c : Nat → Nat) (hC : NumAt w T.n a g o (natV c)) (hc : ∀ p, p < T.n → c p ≤ T.en p) :
    Calls Tryz.prog 23 #[T.val,.slice D.s.a D.s.n D.s.c,.slice a T.n cap] w (fun e w'=>Ext w w'∧∃ q,e=.returned q∧Que w' w.heap.size 1 q (T.toTr.pnL D.l c T.n).length (intCells (natInts (T.toTr.pnL D.l c T.n)))):=by
 obtain ⟨j0,hj0,hy0,hy1,hy2⟩:=info_parts infoInt
 have hn8:=hV.n8
 have hn1:=hV.n1
 have HT:=Lib.hid hT
 have HC:=Lib.hid hC
 have HEN:=Lib.hid (fun p (hp:p<T.n)=>hV.en64 hp)
 have HCL:=Lib.hid hc
 have HST:=Lib.hid (fun W (h:Ext w W) p (hp:p<T.n)=>rstep_any W a g o T.n cap c (hC.ext h) p hp (by omega) (by have:=hc p hp;have:=hV.en64 hp;omega))
 have HPE:=Lib.hid (fun W (h:Ext w W) p (hp:p<T.n) (hlt:c p<T.en p) g' o' cap' (hN:NumAt W T.n (some ⟨g',o',none⟩) g' o' (natV (upC c p)))=>(show Calls Tryz.prog 62 #[T.val,.slice D.s.a D.s.n D.s.c,.slice (some ⟨g',o',none⟩) T.n cap'] W (BoolPost (PCut T.toTr D.l (upC c p)) W) from by
  have hR:T.toTr.InR T.n (natV (upC c p)):=fun q hq=>by
   have h1:=hc q hq
   by_cases e:q=p
   ·subst e;simp only [natV];rw [upC_same];omega
   ·simp only [natV];rw [upC_other e];omega
  refine (rpermitted_any W T (hT.ext h) hV D (hD.ext h) hL (some ⟨g',o',none⟩) g' o' cap' _ hN hR).mono fun e w' ⟨b,he,hb,hx⟩=>⟨b,he,hb.trans ⟨fun k=>⟨(isCut_iff hV).1 ⟨⟨hV,rfl⟩,hR,k.1⟩,k.2⟩,fun k=>⟨((isCut_iff hV).2 k.cut).2.2,k.per⟩⟩,hx⟩))
 obtain rfl:=hC.pa (by omega)
 obtain ⟨ta,hta⟩:∃ z,z=T.a:=⟨_,rfl⟩
 obtain rfl:ta=some ⟨T.b,T.off,none⟩:=by rw [hta];exact hT.P.pa (by omega)
 obtain ⟨da,hda⟩:∃ z,z=D.s.a:=⟨_,rfl⟩
 obtain ⟨dn,hdn'⟩:∃ z,z=D.s.n:=⟨_,rfl⟩
 simp only [TM.val,←hta] at HPE ⊢
 rw [←hda,←hdn'] at HPE
 rw [←hda,←hdn']
 clear hT hV hD hL hC hc hta hda hdn'
 go_enter Tryz.func23,Tryz.ntmps23
 go_upto_region 1 with fail
 refine boxed1 (w:=w) (G:=fun x=>Code.wp _ _ _ _ x) ?_
 intro w1 hx1 hs1 ⟨l0,c0,_,_⟩
 have hx11:Ext w1 w1:=Ext.refl _
 clear hs1
 go_wp2_with fail
 go_loopg [7,8] T.n (fun gg v7 v8 wr=>∃ (p:Nat) (q:Value),p≤T.n∧gg=T.n - p∧v8=.int .i64 p∧v7=q∧Ext w1 wr∧Que wr w1.heap.size 1 q (T.toTr.pnL D.l c p).length (intCells (natInts (T.toTr.pnL D.l c p))))
 case atStart=>exact ⟨0,_,by omega,rfl,rfl,rfl,hx11,Que.nil _ _ _⟩
 case round=>
  obtain ⟨p,q,hp,rfl,rfl,rfl,hx1r,hq⟩:=hrel
  obtain ⟨qa,qc,rfl⟩:=hq.slice
  have hxwr:=hx1.trans hx1r
  obtain ⟨ln,hln⟩:∃ z,z=(T.toTr.pnL D.l c p).length:=⟨_,rfl⟩
  have hlm:ln≤8:=by rw [hln];have:=T.toTr.pnL_len D.l c p;omega
  have HLN:=Lib.hid hln
  rw [←hln] at hq
  have HQ:=Lib.hid hq
  clear hq
  by_cases hlt:p<T.n
  case neg=>
   obtain rfl:p=T.n:=by omega
   rw [←hln]
   clear hln
   have HQ2:=Lib.hid (show Que wr w.heap.size 1 (.slice qa ln qc) (T.toTr.pnL D.l c T.n).length (intCells (natInts (T.toTr.pnL D.l c T.n))) from by rw [←HLN.out];exact HQ.out.mono hx1.le)
   go_wp2_with fail
   go_ret
   exact ⟨hxwr,_,rfl,HQ2.out⟩
  rw [←hln]
  clear hln
  have hlt':(p:Int)<(T.n:Int):=by omega
  have pb:=HT.out.P.pb (by omega)
  obtain ⟨ep,hep⟩:∃ z,z=T.en p:=⟨_,rfl⟩
  obtain ⟨cp,hcp⟩:∃ z,z=c p:=⟨_,rfl⟩
  have p2:∀ w',Ext w w'→w'.cell? ⟨T.b,T.off+p*3+2,none⟩=some (.slice (T.ea p) ep (T.ec p)):=fun w' h=>by rw [hep];exact HT.out.P.p2 w' h p hlt
  have qb:∀ w',Ext w w'→g<w'.heap.size:=fun w' y=>Nat.lt_of_lt_of_le (HC.out.pb (by omega)) y.le
  have qp:∀ w',Ext w w'→w'.cell? ⟨g,o+p,none⟩=some (.int .i64 (cp:Nat)):=fun w' y=>by rw [hcp];exact y.cell (HC.out.c p hlt)
  have HCP:=Lib.hid (And.intro hep hcp)
  clear hep hcp
  by_cases hce:cp<ep
  case neg=>
   have d1:decide ((cp:Int)<(ep:Int))=false:=decide_eq_false (by omega)
   have d1':decide (cp<ep)=false:=decide_eq_false hce
   have HNO:=Lib.hid (show T.toTr.pnL D.l c (p+1)=T.toTr.pnL D.l c p from Tr.pnL_no fun h=>hce (by rw [HCP.out.1,HCP.out.2];exact h.1))
   go_upto_region 5 with fail
   refine wp_region_held_drew (S:=fun w'=>Ext wr w') (by kernel_rfl) (Ext.refl _).drew (fun hHeld=>?_)
   refine hQ 0 (v:=?_) rfl (y:=.inl ⟨by rfl,?_⟩) (h:=?_)
   rotate_left
   ·(intro w' hSw;(try dsimp only at hSw);have hSS:=Ext.refl w';have hS0:=hxwr.trans hSw;have hS1:=hx1r.trans hSw;go_simp;try with_reducible rfl)
   try simp only [Act.put,zA,zB,zC]
   refine hQ 1 (v:=?_) rfl (y:=.inl ⟨by rfl,?_⟩) (h:=?_)
   rotate_left
   ·(intro w' hSw;(try dsimp only at hSw);have hSS:=Ext.refl w';have hS0:=hxwr.trans hSw;have hS1:=hx1r.trans hSw;go_simp;try with_reducible rfl)
   try simp only [Act.put,zA,zB,zC]
   refine hQ 2 (v:=?_) rfl (y:=.inl ⟨by rfl,?_⟩) (h:=?_)
   rotate_left
   ·(intro w' hSw;(try dsimp only at hSw);have hSS:=Ext.refl w';have hS0:=hxwr.trans hSw;have hS1:=hx1r.trans hSw;go_simp;try with_reducible rfl)
   try simp only [Act.put,zA,zB,zC]
   refine hQ 3 (v:=?_) rfl (y:=.inl ⟨by rfl,?_⟩) (h:=?_)
   rotate_left
   ·(intro w' hSw;(try dsimp only at hSw);have hSS:=Ext.refl w';have hS0:=hxwr.trans hSw;have hS1:=hx1r.trans hSw;go_simp;try with_reducible rfl)
   try simp only [Act.put,zA,zB,zC]
   refine hQ 4 (v:=?_) rfl (y:=.inl ⟨by rfl,?_⟩) (h:=?_)
   rotate_left
   ·(intro w' hSw;(try dsimp only at hSw);have hSS:=Ext.refl w';have hS0:=hxwr.trans hSw;have hS1:=hx1r.trans hSw;go_simp;try with_reducible rfl)
   try simp only [Act.put,zA,zB,zC]
   refine hQ 5 (v:=?_) rfl (y:=.inl ⟨by rfl,?_⟩) (h:=?_)
   rotate_left
   ·(intro w' hSw;(try dsimp only at hSw);have hSS:=Ext.refl w';have hS0:=hxwr.trans hSw;have hS1:=hx1r.trans hSw;go_simp;try with_reducible rfl)
   try simp only [Act.put,zA,zB,zC]
   refine hQ 6 (v:=?_) rfl (y:=.inl ⟨by rfl,?_⟩) (h:=?_)
   rotate_left
   ·(intro w' hSw;(try dsimp only at hSw);have hSS:=Ext.refl w';have hS0:=hxwr.trans hSw;have hS1:=hx1r.trans hSw;go_simp;try with_reducible rfl)
   try simp only [Act.put,zA,zB,zC]
   refine hQ 7 (v:=?_) rfl (y:=.inl ⟨by rfl,?_⟩) (h:=?_)
   rotate_left
   ·(intro w' hSw;(try dsimp only at hSw);have hSS:=Ext.refl w';have hS0:=hxwr.trans hSw;have hS1:=hx1r.trans hSw;go_simp;try with_reducible rfl)
   try simp only [Act.put,zA,zB,zC]
   refine hQ 8 (v:=?_) rfl (y:=.inl ⟨by rfl,?_⟩) (h:=?_)
   rotate_left
   ·(intro w' hSw;(try dsimp only at hSw);have hSS:=Ext.refl w';have hS0:=hxwr.trans hSw;have hS1:=hx1r.trans hSw;go_simp;try with_reducible rfl)
   try simp only [Act.put,zA,zB,zC]
   refine hQ 9 (v:=?_) rfl (y:=.inl ⟨by rfl,?_⟩) (h:=?_)
   rotate_left
   ·(intro w' hSw;(try dsimp only at hSw);have hSS:=Ext.refl w';have hS0:=hxwr.trans hSw;have hS1:=hx1r.trans hSw;go_simp;try with_reducible rfl)
   try simp only [Act.put,zA,zB,zC]
   refine hQ 10 (v:=?_) rfl (y:=.inl ⟨by rfl,?_⟩) (h:=?_)
   rotate_left
   ·(intro w' hSw;(try dsimp only at hSw);have hSS:=Ext.refl w';have hS0:=hxwr.trans hSw;have hS1:=hx1r.trans hSw;go_simp;try with_reducible rfl)
   try simp only [Act.put,zA,zB,zC]
   refine hQ 11 (v:=?_) rfl (y:=.inl ⟨by rfl,?_⟩) (h:=?_)
   rotate_left
   ·(intro w' hSw;(try dsimp only at hSw);have hSS:=Ext.refl w';have hS0:=hxwr.trans hSw;have hS1:=hx1r.trans hSw;go_simp;try with_reducible rfl)
   try simp only [Act.put,zA,zB,zC]
   refine hQ 12 (v:=?_) rfl (y:=.inl ⟨by rfl,?_⟩) (h:=?_)
   rotate_left
   ·(intro w' hSw;(try dsimp only at hSw);have hSS:=Ext.refl w';have hS0:=hxwr.trans hSw;have hS1:=hx1r.trans hSw;go_simp;try with_reducible rfl)
   try simp only [Act.put,zA,zB,zC]
   refine heldTake 13 (v:=undef) rfl (by kernel_rfl) (by kernel_rfl) (by kernel_rfl) (fun _ _ _ h=>h) (Or.inr ⟨by rfl,rfl⟩) (by assumption) ?_
   try simp only [Act.put,zA,zB,zC]
   refine heldTake 14 (v:=undef) rfl (by kernel_rfl) (by kernel_rfl) (by kernel_rfl) (fun _ _ _ h=>h) (Or.inr ⟨by rfl,rfl⟩) (by assumption) ?_
   try simp only [Act.put,zA,zB,zC]
   refine heldTake 15 (v:=undef) rfl (by kernel_rfl) (by kernel_rfl) (by kernel_rfl) (fun _ _ _ h=>h) (Or.inr ⟨by rfl,rfl⟩) (by assumption) ?_
   try simp only [Act.put,zA,zB,zC]
   refine heldTake 16 (v:=undef) rfl (by kernel_rfl) (by kernel_rfl) (by kernel_rfl) (fun _ _ _ h=>h) (Or.inr ⟨by rfl,rfl⟩) (by assumption) ?_
   try simp only [Act.put,zA,zB,zC]
   refine heldTake 17 (v:=undef) rfl (by kernel_rfl) (by kernel_rfl) (by kernel_rfl) (fun _ _ _ h=>h) (Or.inr ⟨by rfl,rfl⟩) (by assumption) ?_
   try simp only [Act.put,zA,zB,zC]
   refine heldTake 18 (v:=undef) rfl (by kernel_rfl) (by kernel_rfl) (by kernel_rfl) (fun _ _ _ h=>h) (Or.inr ⟨by rfl,rfl⟩) (by assumption) ?_
   try simp only [Act.put,zA,zB,zC]
   refine hQ 19 (v:=?_) rfl (y:=.inl ⟨by rfl,?_⟩) (h:=?_)
   rotate_left
   ·(intro w' hSw;(try dsimp only at hSw);have hSS:=Ext.refl w';have hS0:=hxwr.trans hSw;have hS1:=hx1r.trans hSw;go_simp;try with_reducible rfl)
   try simp only [Act.put,zA,zB,zC]
   refine wpAnyH_done (by kernel_rfl) ?_ _
   have HQ2:=Lib.hid (show Que wr.drew w1.heap.size 1 (.slice qa ln qc) (T.toTr.pnL D.l c (p+1)).length (intCells (natInts (T.toTr.pnL D.l c (p+1)))) from by rw [HNO.out,←HLN.out];exact HQ.out.ext (Ext.refl _).drew)
   have hx2:=hx1r.drew
   clear hHeld
   generalize wr.drew=w2 at HQ2 hx2 ⊢
   go_wp2_with fail
   go_roundg (T.n - (p+1))
   case rel=>exact ⟨p+1,_,by omega,rfl,by go_num,rfl,hx2,HQ2.out⟩
   case measure=>omega
  have d1:decide ((cp:Int)<(ep:Int))=true:=decide_eq_true (by omega)
  have d1':decide (cp<ep)=true:=decide_eq_true hce
  go_upto_region 5 with fail
  refine wp_region_held_drew (S:=fun w'=>Ext wr w') (by kernel_rfl) (Ext.refl _).drew (fun hHeld=>?_)
  refine hQ 0 (v:=?_) rfl (y:=.inl ⟨by rfl,?_⟩) (h:=?_)
  rotate_left
  ·(intro w' hSw;(try dsimp only at hSw);have hSS:=Ext.refl w';have hS0:=hxwr.trans hSw;have hS1:=hx1r.trans hSw;go_simp;try with_reducible rfl)
  try simp only [Act.put,zA,zB,zC]
  refine hQ 1 (v:=?_) rfl (y:=.inl ⟨by rfl,?_⟩) (h:=?_)
  rotate_left
  ·(intro w' hSw;(try dsimp only at hSw);have hSS:=Ext.refl w';have hS0:=hxwr.trans hSw;have hS1:=hx1r.trans hSw;go_simp;try with_reducible rfl)
  try simp only [Act.put,zA,zB,zC]
  refine hQ 2 (v:=?_) rfl (y:=.inl ⟨by rfl,?_⟩) (h:=?_)
  rotate_left
  ·(intro w' hSw;(try dsimp only at hSw);have hSS:=Ext.refl w';have hS0:=hxwr.trans hSw;have hS1:=hx1r.trans hSw;go_simp;try with_reducible rfl)
  try simp only [Act.put,zA,zB,zC]
  refine hQ 3 (v:=?_) rfl (y:=.inl ⟨by rfl,?_⟩) (h:=?_)
  rotate_left
  ·(intro w' hSw;(try dsimp only at hSw);have hSS:=Ext.refl w';have hS0:=hxwr.trans hSw;have hS1:=hx1r.trans hSw;go_simp;try with_reducible rfl)
  try simp only [Act.put,zA,zB,zC]
  refine hQ 4 (v:=?_) rfl (y:=.inl ⟨by rfl,?_⟩) (h:=?_)
  rotate_left
  ·(intro w' hSw;(try dsimp only at hSw);have hSS:=Ext.refl w';have hS0:=hxwr.trans hSw;have hS1:=hx1r.trans hSw;go_simp;try with_reducible rfl)
  try simp only [Act.put,zA,zB,zC]
  refine hQ 5 (v:=?_) rfl (y:=.inl ⟨by rfl,?_⟩) (h:=?_)
  rotate_left
  ·(intro w' hSw;(try dsimp only at hSw);have hSS:=Ext.refl w';have hS0:=hxwr.trans hSw;have hS1:=hx1r.trans hSw;go_simp;try with_reducible rfl)
  try simp only [Act.put,zA,zB,zC]
  refine hQ 6 (v:=?_) rfl (y:=.inl ⟨by rfl,?_⟩) (h:=?_)
  rotate_left
  ·(intro w' hSw;(try dsimp only at hSw);have hSS:=Ext.refl w';have hS0:=hxwr.trans hSw;have hS1:=hx1r.trans hSw;go_simp;try with_reducible rfl)
  try simp only [Act.put,zA,zB,zC]
  refine hQ 7 (v:=?_) rfl (y:=.inl ⟨by rfl,?_⟩) (h:=?_)
  rotate_left
  ·(intro w' hSw;(try dsimp only at hSw);have hSS:=Ext.refl w';have hS0:=hxwr.trans hSw;have hS1:=hx1r.trans hSw;go_simp;try with_reducible rfl)
  try simp only [Act.put,zA,zB,zC]
  refine hQ 8 (v:=?_) rfl (y:=.inl ⟨by rfl,?_⟩) (h:=?_)
  rotate_left
  ·(intro w' hSw;(try dsimp only at hSw);have hSS:=Ext.refl w';have hS0:=hxwr.trans hSw;have hS1:=hx1r.trans hSw;go_simp;try with_reducible rfl)
  try simp only [Act.put,zA,zB,zC]
  refine hQ 9 (v:=?_) rfl (y:=.inl ⟨by rfl,?_⟩) (h:=?_)
  rotate_left
  ·(intro w' hSw;(try dsimp only at hSw);have hSS:=Ext.refl w';have hS0:=hxwr.trans hSw;have hS1:=hx1r.trans hSw;go_simp;try with_reducible rfl)
  try simp only [Act.put,zA,zB,zC]
  refine hQ 10 (v:=?_) rfl (y:=.inl ⟨by rfl,?_⟩) (h:=?_)
  rotate_left
  ·(intro w' hSw;(try dsimp only at hSw);have hSS:=Ext.refl w';have hS0:=hxwr.trans hSw;have hS1:=hx1r.trans hSw;go_simp;try with_reducible rfl)
  try simp only [Act.put,zA,zB,zC]
  refine hQ 11 (v:=?_) rfl (y:=.inl ⟨by rfl,?_⟩) (h:=?_)
  rotate_left
  ·(intro w' hSw;(try dsimp only at hSw);have hSS:=Ext.refl w';have hS0:=hxwr.trans hSw;have hS1:=hx1r.trans hSw;go_simp;try with_reducible rfl)
  try simp only [Act.put,zA,zB,zC]
  refine hQ 12 (v:=?_) rfl (y:=.inl ⟨by rfl,?_⟩) (h:=?_)
  rotate_left
  ·(intro w' hSw;(try dsimp only at hSw);have hSS:=Ext.refl w';have hS0:=hxwr.trans hSw;have hS1:=hx1r.trans hSw;go_simp;try with_reducible rfl)
  try simp only [Act.put,zA,zB,zC]
  refine hQ 13 (v:=?_) rfl (y:=.inl ⟨by rfl,?_⟩) (h:=?_)
  rotate_left
  ·(intro w' hSw;(try dsimp only at hSw);have hSS:=Ext.refl w';have hS0:=hxwr.trans hSw;have hS1:=hx1r.trans hSw;go_simp;try with_reducible rfl)
  try simp only [Act.put,zA,zB,zC]
  refine hQ 14 (v:=?_) rfl (y:=.inl ⟨by rfl,?_⟩) (h:=?_)
  rotate_left
  ·(intro w' hSw;(try dsimp only at hSw);have hSS:=Ext.refl w';have hS0:=hxwr.trans hSw;have hS1:=hx1r.trans hSw;go_simp;try with_reducible rfl)
  try simp only [Act.put,zA,zB,zC]
  refine hQ 15 (v:=?_) rfl (y:=.inl ⟨by rfl,?_⟩) (h:=?_)
  rotate_left
  ·(intro w' hSw;(try dsimp only at hSw);have hSS:=Ext.refl w';have hS0:=hxwr.trans hSw;have hS1:=hx1r.trans hSw;go_simp;try with_reducible rfl)
  try simp only [Act.put,zA,zB,zC]
  refine hQ 16 (v:=?_) rfl (y:=.inl ⟨by rfl,?_⟩) (h:=?_)
  rotate_left
  ·(intro w' hSw;(try dsimp only at hSw);have hSS:=Ext.refl w';have hS0:=hxwr.trans hSw;have hS1:=hx1r.trans hSw;go_simp;try with_reducible rfl)
  try simp only [Act.put,zA,zB,zC]
  refine wpAnyH_ready (rs:=[17]) (by kernel_rfl) (by simp) ?_
  refine AllReadyH.cons rfl (fun K hK=>?_) AllReadyH.nil
  go_simp
  go_at_call 40
  refine (HST.out wr.drew hxwr.drew p hlt).mono ?_
  rintro e w2 ⟨hx2,g2,o2,cap2,rfl,hN2,-⟩
  have hxr2:Ext wr w2:=(Ext.refl wr).drew.trans hx2
  have HP2:=Lib.hid (HPE.out w2 (hxwr.trans hxr2) p hlt (by rw [←HCP.out.1,←HCP.out.2];exact hce) g2 o2 cap2 hN2)
  refine hK.out _ _ hxr2 (fun hHeld2=>?_)
  clear hK K hx2 hN2 hHeld
  try simp only [Act.put]
  refine wpAnyH_ready (rs:=[18]) (by kernel_rfl) (by simp) ?_
  refine AllReadyH.cons rfl (fun K hK=>?_) AllReadyH.nil
  go_simp
  go_at_call 62
  refine HP2.out.mono ?_
  rintro e w3 ⟨b,rfl,hb,hx3⟩
  have hxr3:=hxr2.trans hx3
  have HBB:=Lib.hid hb
  refine hK.out _ _ hxr3 (fun hHeld3=>?_)
  clear hK K hb hHeld2 hx3 hxr2
  try simp only [Act.put]
  refine hQ 19 (v:=?_) rfl (y:=.inl ⟨by rfl,?_⟩) (h:=?_)
  rotate_left
  ·(intro w' hSw;(try dsimp only at hSw);have hSS:=Ext.refl w';have hS0:=hxwr.trans hSw;have hS1:=hx1r.trans hSw;go_simp;try with_reducible rfl)
  try simp only [Act.put,zA,zB,zC]
  refine wpAnyH_done (by kernel_rfl) ?_ _
  have hx13:=hx1r.trans hxr3
  have HQ3:=Lib.hid (HQ.out.ext hxr3)
  clear hHeld3 hxr3 hxwr hx1r pb p2 qb qp
  cases b with
  | false =>
   have HNO:=Lib.hid (show T.toTr.pnL D.l c (p+1)=T.toTr.pnL D.l c p from Tr.pnL_no fun h=>absurd (HBB.out.2 h.2) (by decide))
   have HQ2:=Lib.hid (show Que w3 w1.heap.size 1 (.slice qa ln qc) (T.toTr.pnL D.l c (p+1)).length (intCells (natInts (T.toTr.pnL D.l c (p+1)))) from by rw [HNO.out,←HLN.out];exact HQ3.out)
   go_wp2_with fail
   go_roundg (T.n - (p+1))
   case rel=>exact ⟨p+1,_,by omega,rfl,by go_num,rfl,hx13,HQ2.out⟩
   case measure=>omega
  | true =>
   have HYE:=Lib.hid (show T.toTr.pnL D.l c (p+1)=T.toTr.pnL D.l c p++[p] from Tr.pnL_yes ⟨by rw [←HCP.out.1,←HCP.out.2];exact hce,HBB.out.1 rfl⟩)
   have hle13:=hx13.le
   go_wp2_with (at_builtin;refine wpList_append_que _ rfl _ _ 39 39 rfl (base:=w1.heap.size) (e:=3) (size:=1) j0 (.int .i64 0) 8 Tryz.underlying39 hj0 hy0 hy1 hy2 rfl (v:=.slice qa ln qc) (n:=ln) (xs:=intCells (natInts (T.toTr.pnL D.l c p))) rfl (HQ3.out.ext (Ext.alloc w3 (.cells #[.int .i64 (p:Nat)] 3))) (by rw [World.size_alloc];omega) (.slice (some ⟨w3.heap.size,0,none⟩) 1 1) 1 [.int .i64 (p:Nat)] rfl ((RowM.new w3 [.int .i64 (p:Nat)] 3 1 rfl).src (P:=Tryz.prog) Tryz.underlying39 (by intro u hu;simp at hu;subst hu;rfl)) (by unfold maxLen;omega) (by omega) ?_;rintro v5 w5 hq5 hg5 -;have H5:=Lib.hid (And.intro hq5 hg5);clear hq5 hg5)
   have hx15:Ext w1 w5:=Below.grown (show Below w1.heap.size w1 _ from hx13.alloc' (.cells #[.int .i64 (p:Nat)] 3)) H5.out.2 (by rw [World.size_alloc];omega) HQ3.out.block
   have HQ5:=Lib.hid (show Que w5 w1.heap.size 1 v5 (T.toTr.pnL D.l c (p+1)).length (intCells (natInts (T.toTr.pnL D.l c (p+1)))) from by
    rw [HYE.out,List.length_append,←HLN.out,natInts_snoc]
    exact H5.out.1)
   go_roundg (T.n - (p+1))
   case rel=>exact ⟨p+1,_,by omega,rfl,by go_num,rfl,hx15,HQ5.out⟩
   case measure=>omega
end Go.Proofs.YtkhgpockmaghjaaGreat
