/- Contracts and laws in plain Lean for SPos: group Ur. -/
import Derived.Test.YtnknkkmdbnaglaaGreatUq
import Derived.Test.YtnknkkmdbnaglaaGreatKa
import Derived.Deep.Cut
import Derived.Deep.LoopGhost
import Derived.Deep.AppendLies
set_option maxRecDepth 100000
namespace Go.Proofs.YtnknkkmdbnaglaaGreat
open Go.RowKit Go.Shelf
set_option maxHeartbeats 1000000 in
theorem flValid_yes (w : World) (n : Nat) (L : List Edg) (a : Option Addr) (b off c : Nat) (hN : NetOk n L) (hE : EdAt w a b off L) :
    Calls Tryz.prog 167 #[.agg #[.int .i64 n,.slice a L.length c]] w fun e w'=>e=.returned (.bool true)∧Ext w w':=by
 have hm:=hN.m
 have hn1:=hN.n1
 have hn2:=hN.n2
 have HN:=Lib.hid hN
 have HE:=Lib.hid hE
 obtain ⟨m,hmm⟩:∃ m,m=L.length:=⟨_,rfl⟩
 rw [←hmm] at hm ⊢
 have HM:=Lib.hid hmm
 clear hN hE hmm
 have d1:decide ((n:Int)<1)=false:=decide_eq_false (by omega)
 have d1':decide (n<1)=false:=decide_eq_false (by omega)
 have d2:decide ((512:Int)<(n:Int))=false:=decide_eq_false (by omega)
 have d2':decide (512<n)=false:=decide_eq_false (by omega)
 have d3:decide ((2000:Int)<(m:Int))=false:=decide_eq_false (by omega)
 have d3':decide (2000<m)=false:=decide_eq_false (by omega)
 go_enter Tryz.func167,Tryz.ntmps167
 go_upto_region 1 with fail
 refine boxed1 (w:=w) (G:=fun x=>Code.wp _ _ _ _ x) ?_
 intro w1 hx1 hs1 ⟨l0,c0,_,_⟩
 have hx11:Ext w1 w1:=Ext.refl _
 clear hs1
 go_wp2_with fail
 clear d1 d1' d2 d2' d3 d3'
 go_loopg [22] m (fun gg v wr=>∃ k:Nat,k≤m∧gg=m - k∧v=.int .i64 k∧Ext w1 wr)
 case atStart=>exact ⟨0,by omega,rfl,rfl,hx11⟩
 case round=>
  obtain ⟨k,hk,rfl,rfl,hxr⟩:=hrel
  have hxw:=hx1.trans hxr
  by_cases hlt:k<m
  ·have hlt':(k:Int)<(m:Int):=by omega
   have hkl:k<L.length:=by rw [←HM.out];exact hlt
   obtain rfl:=HE.out.pa (by omega)
   have pb:=HE.out.pb (by omega)
   have p0:∀ w',Ext w w'→w'.cell? ⟨b,off+k*3,none⟩=_:=fun w' h=>HE.out.p0 w' h k hkl
   have p1:∀ w',Ext w w'→w'.cell? ⟨b,off+k*3+1,none⟩=_:=fun w' h=>HE.out.p1 w' h k hkl
   have p2:∀ w',Ext w w'→w'.cell? ⟨b,off+k*3+2,none⟩=_:=fun w' h=>HE.out.p2 w' h k hkl
   have q1:=HN.out.src k hkl
   have q2:=HN.out.dst k hkl
   have q3:=HN.out.ne k hkl
   have q4:=HN.out.lo k hkl
   have q5:=HN.out.hi k hkl
   generalize edgAt L k=x at p0 p1 p2 q1 q2 q3 q4 q5
   obtain ⟨f,t,cp⟩:=x
   dsimp only at p0 p1 p2 q1 q2 q3 q4 q5
   have e1:decide ((f:Int)<0)=false:=decide_eq_false (by omega)
   have e2:decide ((n:Int)≤(f:Int))=false:=decide_eq_false (by omega)
   have e2':decide (n≤f)=false:=decide_eq_false (by omega)
   have e3:decide ((t:Int)<0)=false:=decide_eq_false (by omega)
   have e4:decide ((n:Int)≤(t:Int))=false:=decide_eq_false (by omega)
   have e4':decide (n≤t)=false:=decide_eq_false (by omega)
   have e5:((f:Int) == (t:Int))=false:=by simp;omega
   have e5':(f == t)=false:=by simp;omega
   have e6:decide (cp<0)=false:=decide_eq_false (by omega)
   have e7:decide ((1125899906842624:Int)<cp)=false:=decide_eq_false (by omega)
   go_upto_region 6 with fail
   refine boxed1 (w:=wr) (G:=fun x=>Code.wp _ _ _ _ x) ?_
   intro w4 hx4 hs4 ⟨l4,c4,_,_⟩
   have hx44:Ext w4 w4:=Ext.refl _
   have hx14:=hxr.trans hx4
   clear hs4 p0 p1 p2 pb
   go_wp2_with fail
   go_roundg (m - (k+1))
   case rel=>exact ⟨k+1,by omega,rfl,by go_num,hx14⟩
   case measure=>omega
  ·have hke:k=m:=by omega
   subst hke
   go_wp2_with fail
   go_ret
   exact ⟨rfl,hxw⟩
set_option maxHeartbeats 1000000 in
theorem flEnds_yes (w : World) (n s t : Nat) (v : Value) (hs : s < n) (ht : t < n) (hst : s ≠ t) :
    Calls Tryz.prog 168 #[.agg #[.int .i64 n,v],.int .i64 s,.int .i64 t] w fun e w'=>e=.returned (.bool true)∧Ext w w':=by
 have e1:decide ((0:Int)≤(s:Int))=true:=decide_eq_true (by omega)
 have e2:decide ((s:Int)<(n:Int))=true:=decide_eq_true (by omega)
 have e3:decide ((0:Int)≤(t:Int))=true:=decide_eq_true (by omega)
 have e4:decide ((t:Int)<(n:Int))=true:=decide_eq_true (by omega)
 have e5:((s:Int) != (t:Int))=true:=by simp;omega
 have e5':(s != t)=true:=by simp;omega
 go_enter Tryz.func168,Tryz.ntmps168
 go_upto_region 1 with fail
 refine boxed1 (w:=w) (G:=fun x=>Code.wp _ _ _ _ x) ?_
 intro w1 hx1 hs1 ⟨l0,c0,_,_⟩
 have hx11:Ext w1 w1:=Ext.refl _
 clear hs1
 go_wp2_with fail
 go_ret
 exact ⟨by rfl,hx1⟩
set_option maxHeartbeats 1000000 in
theorem flCheck_yes (w : World) (n s t : Nat) (L : List Edg) (a : Option Addr) (b off c : Nat) (hN : NetOk n L) (hE : EdAt w a b off L) (hs : s < n) (ht : t < n) (hst : s ≠ t) :
    Calls Tryz.prog 95 #[.agg #[.int .i64 n,.slice a L.length c],.int .i64 s,.int .i64 t] w fun e w'=>e=.returned (.int .i64 0)∧Ext w w':=by
 have HV:=Lib.hid (fun W (h:Ext w W)=>flValid_yes W n L a b off c hN (hE.ext h))
 have HD:=Lib.hid (fun W=>flEnds_yes W n s t (.slice a L.length c) hs ht hst)
 clear hN hE hs ht hst
 go_enter Tryz.func95,Tryz.ntmps95
 go_upto_region 1 with fail
 refine boxed1 (w:=w) (G:=fun x=>Code.wp _ _ _ _ x) ?_
 intro w1 hx1 hs1 ⟨l0,c0,_,_⟩
 have hx11:Ext w1 w1:=Ext.refl _
 clear hs1
 go_wp2_with fail
 go_at_call 167
 refine (HV.out _ hx1).mono ?_
 rintro e w2 ⟨rfl,hx2⟩
 go_wp2_with fail
 go_at_call 168
 refine (HD.out _).mono ?_
 rintro e w3 ⟨rfl,hx3⟩
 go_wp2_with fail
 go_ret
 exact ⟨rfl,hx1.trans (hx2.trans hx3)⟩
def OpenPost (n:Nat) (L:List Edg) (w:World) (e:Ending) (w':World):Prop:=Ext w w'∧∃ R:RsA,e=.returned (.pointer (some ⟨R.rb,0,none⟩))∧R.At w.heap.size (Netw.ofList n L) (left0 (Netw.ofList n L)) w'
set_option maxHeartbeats 4000000 in
theorem fopen_any (w : World) (n : Nat) (L : List Edg) (a : Option Addr) (b off c : Nat) (hN : NetOk n L) (hE : EdAt w a b off L) :
    Calls Tryz.prog 96 #[.agg #[.int .i64 n,.slice a L.length c]] w (OpenPost n L w):=by
 have hm:=hN.m
 have hn1:=hN.n1
 have hn2:=hN.n2
 have HN:=Lib.hid hN
 have HE:=Lib.hid hE
 obtain ⟨m,hmm⟩:∃ m,m=L.length:=⟨_,rfl⟩
 rw [←hmm] at hm ⊢
 have HM:=Lib.hid hmm
 obtain ⟨i0,hi0,hz0,hz1,hz2⟩:=info_parts infoInts
 obtain ⟨i1,hi1,hy0,hy1,hy2⟩:=info_parts infoArc
 obtain ⟨i2,hi2,hv0,hv1,hv2⟩:=info_parts infoInt
 clear hN hE hmm
 go_enter Tryz.func96,Tryz.ntmps96
 go_upto_region 1 with fail
 refine boxed1 (w:=w) (G:=fun x=>Code.wp _ _ _ _ x) ?_
 intro w1 hx1 hs1 ⟨l0,c0,_,_⟩
 have hx11:Ext w1 w1:=Ext.refl _
 clear hs1
 go_upto_region 2 with (at_make;refine wpList_make_full _ rfl _ _ 33 rfl w1.heap.size 28 i0 (.slice none 0 0) 1 Tryz.underlying33 hi0 hz0 hz1 .i64 .i64 _ _ n rfl rfl rfl rfl (by rw [hz2];omega) (by unfold maxLen;omega) (Nat.le_refl _) ?_;intro w3 hown3 hg3)
 have hx3:Ext w1 w3:=(Below.refl _ _).grown hg3 (Nat.le_refl _) (by simp)
 have HL3:=Lib.hid (LvS.made (fun g=>g=w3.heap.size) hown3)
 clear hown3 hg3
 refine boxed1 (w:=w3) (G:=fun x=>Code.wp _ _ _ _ x) ?_
 intro w4 hx4 hs4 ⟨_,_,_,k4⟩
 have hx14:=hx3.trans hx4
 have hx44:Ext w4 w4:=Ext.refl _
 have HB:=Lib.hid (show w.heap.size≤w1.heap.size∧w1.heap.size<w3.heap.size from ⟨hx1.le,HL3.out.lt⟩)
 have HO:=Lib.hid (OpS.mk (base:=w.heap.size) (rb:=w3.heap.size) (lb:=w1.heap.size) (n:=n) (L:=L) (k:=0) (av:=.slice none 0 0) (rows:=fun _=>[]) (vs:=fun _=>.slice none 0 0) (w:=w4) (show Hold w4 w3.heap.size #[.slice none 0 0,.slice (some ⟨w1.heap.size,0,none⟩) n n] from k4) (World.ownsRow_nil _ _ _ _)
  (((HL3.out.ext hx4).mono HB.out.1).avoid fun g _ h=>by exact h.elim (fun h=>h) (fun h=>by cases h)) ⟨fun h=>(by cases h),fun h=>(by cases h)⟩ (by have:=HB.out;omega) (by have:=HB.out;omega) HB.out.1)
 clear HL3 k4
 generalize w3.heap.size=rb at HO HB hs4 ⊢
 generalize w1.heap.size=lb at HO HB ⊢
 have hx04:=hx1.trans hx14
 go_wp2_with fail
 clear hs4
 go_loopg [15] m (fun gg v wr=>∃ (k:Nat) (av:Value) (rows:Nat→List Int) (vs:Nat→Value),k≤m∧gg=m - k∧v=.int .i64 k∧OpS w.heap.size rb lb n L k av rows vs wr∧(Netw.ofList n L).RowsTo rows (2*k)∧Ext w wr)
 case atStart=>exact ⟨0,_,_,_,by omega,rfl,rfl,HO.out,Netw.RowsTo.start _,hx04⟩
 case round=>
  obtain ⟨k,av,rows,vs,hk,rfl,rfl,hO,hR,hxr⟩:=hrel
  have HOR:=Lib.hid hO
  have HR:=Lib.hid hR
  have hrr:Ext wr wr:=Ext.refl _
  clear hO hR
  by_cases hlt:k<m
  ·have hlt':(k:Int)<(m:Int):=by omega
   have hkl:k<L.length:=by rw [←HM.out];exact hlt
   obtain rfl:=HE.out.pa (by omega)
   have pb:=HE.out.pb (by omega)
   have p0:∀ w',Ext w w'→w'.cell? ⟨b,off+k*3,none⟩=_:=fun w' h=>HE.out.p0 w' h k hkl
   have p1:∀ w',Ext w w'→w'.cell? ⟨b,off+k*3+1,none⟩=_:=fun w' h=>HE.out.p1 w' h k hkl
   have p2:∀ w',Ext w w'→w'.cell? ⟨b,off+k*3+2,none⟩=_:=fun w' h=>HE.out.p2 w' h k hkl
   have q1:=HN.out.src k hkl
   have q2:=HN.out.dst k hkl
   have ef:(Netw.ofList n L).fr (2*k)=(edgAt L k).1:=Netw.fr_even _ _
   have et:(Netw.ofList n L).fr (2*k+1)=(edgAt L k).2.1:=Netw.fr_odd _ _
   have HT:=Lib.hid (take_succ_at hkl)
   generalize edgAt L k=x at p0 p1 p2 q1 q2 ef et HT
   obtain ⟨f,t,cp⟩:=x
   dsimp only at p0 p1 p2 q1 q2 ef et
   have HF:=Lib.hid (And.intro ef et)
   have q1':(f:Int)<(n:Int):=by omega
   have q2':(t:Int)<(n:Int):=by omega
   clear ef et
   go_upto_region 5 with fail
   refine boxed1 (w:=wr) (G:=fun x=>Code.wp _ _ _ _ x) ?_
   intro w5 hx5 hs5 ⟨l5,c5,_,k5⟩
   have hx55:Ext w5 w5:=Ext.refl _
   have HK5:=Lib.hid (show Hold w5 wr.heap.size _ from k5)
   have HXB:=Lib.hid (And.intro (fun g e=>(own_lt HOR.out.arc g e).2) (And.intro (fun j hj g e=>(HOR.out.lv.own j hj).lt g e) (And.intro HOR.out.hr.lt HOR.out.lv.lt)))
   generalize wr.heap.size=xb at l5 c5 hs5 HK5 HXB ⊢
   have hxw5:=hxr.trans hx5
   have HO5:=Lib.hid (HOR.out.ext hx5)
   clear p0 p1 p2 pb k5 hs5
   obtain ⟨a6,c6,hav⟩:=own_form HO5.out.arc
   subst hav
   obtain ⟨lr,cr,fr,_⟩:=HO5.out.hr.box
   have cr0:∀ w',Ext w5 w'→w'.cell? ⟨rb,0,none⟩=some (.slice a6 (2*k) c6):=fun w' h=>cr w' h 0
   go_upto_region 6 with fail
   go_cut [38] (fun s38 wx=>∃ v8,s38=v8∧OpS w.heap.size rb lb n L (k+1) v8 rows vs wx∧Ext w wx∧Hold wx xb #[.int .i64 f,.int .i64 t,.int .i64 cp])
   case first=>
    refine wp_region_held_drew (S:=fun w'=>Hold w' xb #[.int .i64 f,.int .i64 t,.int .i64 cp]) (by kernel_rfl) HK5.out.drew (fun hHeld=>?_)
    refine hQ 0 (v:=?_) rfl (y:=.inl ⟨by rfl,?_⟩) (h:=?_)
    rotate_left
    ·(intro w' hSw;obtain ⟨lS,cS,_,_⟩:=hSw.box;have hSS:=Ext.refl w';go_simp;try with_reducible rfl)
    simp only [Act.put,zA,zB,zC]
    refine hQ 1 (v:=?_) rfl (y:=.inl ⟨by rfl,?_⟩) (h:=?_)
    rotate_left
    ·(intro w' hSw;obtain ⟨lS,cS,_,_⟩:=hSw.box;have hSS:=Ext.refl w';go_simp;try with_reducible rfl)
    simp only [Act.put,zA,zB,zC]
    refine hQ 2 (v:=?_) rfl (y:=.inl ⟨by rfl,?_⟩) (h:=?_)
    rotate_left
    ·(intro w' hSw;obtain ⟨lS,cS,_,_⟩:=hSw.box;have hSS:=Ext.refl w';go_simp;try with_reducible rfl)
    simp only [Act.put,zA,zB,zC]
    refine hQ 3 (v:=?_) rfl (y:=.inl ⟨by rfl,?_⟩) (h:=?_)
    rotate_left
    ·(intro w' hSw;obtain ⟨lS,cS,_,_⟩:=hSw.box;have hSS:=Ext.refl w';go_simp;try with_reducible rfl)
    simp only [Act.put,zA,zB,zC]
    refine hQ 5 (v:=?_) rfl (y:=.inl ⟨by rfl,?_⟩) (h:=?_)
    rotate_left
    ·(intro w' hSw;obtain ⟨lS,cS,_,_⟩:=hSw.box;have hSS:=Ext.refl w';go_simp;try with_reducible rfl)
    simp only [Act.put,zA,zB,zC]
    refine hQ 7 (v:=?_) rfl (y:=.inl ⟨by rfl,?_⟩) (h:=?_)
    rotate_left
    ·(intro w' hSw;obtain ⟨lS,cS,_,_⟩:=hSw.box;have hSS:=Ext.refl w';go_simp;try with_reducible rfl)
    simp only [Act.put,zA,zB,zC]
    refine hQ 10 (v:=?_) rfl (y:=.inl ⟨by rfl,?_⟩) (h:=?_)
    rotate_left
    ·(intro w' hSw;obtain ⟨lS,cS,_,_⟩:=hSw.box;have hSS:=Ext.refl w';go_simp;try with_reducible rfl)
    simp only [Act.put,zA,zB,zC]
    refine hQ 6 (v:=?_) rfl (y:=.inl ⟨by rfl,?_⟩) (h:=?_)
    rotate_left
    ·(intro w' hSw;obtain ⟨lS,cS,_,_⟩:=hSw.box;have hSS:=Ext.refl w';go_simp;try with_reducible rfl)
    simp only [Act.put,zA,zB,zC]
    refine hQ 8 (v:=?_) rfl (y:=.inl ⟨by rfl,?_⟩) (h:=?_)
    rotate_left
    ·(intro w' hSw;obtain ⟨lS,cS,_,_⟩:=hSw.box;have hSS:=Ext.refl w';go_simp;try with_reducible rfl)
    simp only [Act.put,zA,zB,zC]
    refine hQ 11 (v:=?_) rfl (y:=.inl ⟨by rfl,?_⟩) (h:=?_)
    rotate_left
    ·(intro w' hSw;obtain ⟨lS,cS,_,_⟩:=hSw.box;have hSS:=Ext.refl w';go_simp;try with_reducible rfl)
    simp only [Act.put,zA,zB,zC]
    refine hQ 9 (v:=?_) rfl (y:=.inl ⟨by rfl,?_⟩) (h:=?_)
    rotate_left
    ·(intro w' hSw;obtain ⟨lS,cS,_,_⟩:=hSw.box;have hSS:=Ext.refl w';go_simp;try with_reducible rfl)
    simp only [Act.put,zA,zB,zC]
    refine hQ 12 (v:=?_) rfl (y:=.inl ⟨by rfl,?_⟩) (h:=?_)
    rotate_left
    ·(intro w' hSw;obtain ⟨lS,cS,_,_⟩:=hSw.box;have hSS:=Ext.refl w';go_simp;try with_reducible rfl)
    simp only [Act.put,zA,zB,zC]
    refine wpAnyH_ready (rs:=[4,13]) (by kernel_rfl) (by simp) ?_
    refine AllReadyH.cons rfl (fun K hK=>?_) (AllReadyH.cons rfl (fun K hK=>?_) AllReadyH.nil)
    ·go_simp
     refine hK.out _ _ ?_ (fun hHeld2=>?_)
     ·exact hHeld
     clear hK K
     try simp only [Act.put,zA,zB,zC]
     refine wpAnyH_ready (rs:=[13]) (by kernel_rfl) (by simp) ?_
     refine AllReadyH.cons rfl (fun K hK=>?_) AllReadyH.nil
     go_simp
     refine hK.out _ _ ?_ (fun hHeld3=>?_)
     ·exact Hold.ext hHeld (Ext.alloc _ _)
     clear hK K
     try simp only [Act.put,zA,zB,zC]
     refine wpAnyH_ready (rs:=[14]) (by kernel_rfl) (by simp) ?_
     refine AllReadyH.cons rfl (fun K hK=>?_) AllReadyH.nil
     refine step_append_lies _ (by exact rfl) (.tmp 28) (.tmp 37) 151 (by exact rfl) w.heap.size 150 i1 (.agg #[.int .i64 0,.int .i64 0]) 2 16 Tryz.underlying151 hi1 hy0 hy1 hy2 rfl (by decide) (.slice a6 (2*k) c6) (2*k) (arcCells (L.take k)) (by exact rfl) (by exact own_ext HO5.out.arc ((Ext.refl w5).drew.alloc' _)) ⟨w5.heap.size,0,none⟩ 2 2 [.int .i64 t,.int .i64 cp,.int .i64 f,.int .i64 0] (by exact rfl) rfl (by intro j u hj;exact news_ok w5 [_,_,_,_] _ j u hj) (by intro u hu;simp at hu;rcases hu with rfl | rfl | rfl | rfl <;> rfl) (by decide) (by unfold maxLen;omega) (by omega) (by have:=hxw5.le;simp;omega) _ rfl ?_
     rintro g8 c8 w8 hown8 hg8 hor8 hlt8
     have hP8:=OpS.arcs (HO5.out.ext ((Ext.refl w5).drew.alloc' _)) (by have:=hxw5.le;simp;omega) (by rw [HT.out,arcCells_snoc]) hown8 hg8 (hor8.imp (fun e=>e.symm) (fun e=>congrArg some e))
     have q1:=hP8.2.2.1
     have q2:=hP8.2.2.2
     have hH8:Hold w8 xb #[.int .i64 f,.int .i64 t,.int .i64 cp]:=by
      obtain ⟨ty,hty⟩:=hHeld3
      exact ⟨ty,(hg8.block xb (Array.getElem?_eq_some_iff.1 hty).1 (fun e=>by have:=HXB.out.1 xb e.symm;omega)).trans hty⟩
     have HP8:=Lib.hid hP8
     have hx08:=hxw5.drew.alloc' (.cells #[.int .i64 t,.int .i64 cp,.int .i64 f,.int .i64 0] 150)
     clear hP8 hown8 hg8 hor8 hlt8
     refine hK.out _ _ ?_ (fun hHeld4=>?_)
     ·exact hH8
     clear hK K
     try simp only [Act.put,List.setIfInBounds_toArray]
     refine hQ 15 (v:=?_) rfl (y:=.inl ⟨by rfl,?_⟩) (h:=?_)
     rotate_left
     ·(intro w' hSw;obtain ⟨lS,cS,_,_⟩:=hSw.box;have hSS:=Ext.refl w';go_simp;try with_reducible rfl)
     simp only [Act.put]
     refine hQ 16 (v:=?_) rfl (y:=.inl ⟨by rfl,?_⟩) (h:=?_)
     rotate_left
     ·(intro w' hSw;obtain ⟨lS,cS,_,_⟩:=hSw.box;have hSS:=Ext.refl w';go_simp;try with_reducible rfl)
     simp only [Act.put]
     refine wpAnyH_ready (rs:=[17]) (by kernel_rfl) (by simp) ?_
     refine AllReadyH.cons rfl (fun K hK=>?_) AllReadyH.nil
     go_simp
     refine hK.out _ _ ?_ (fun hHeld5=>?_)
     ·exact Hold.other hH8 _ _ (by have:=HXB.out.2.2.1;show xb≠rb;omega)
     clear hK K
     try simp only [Act.put,zA,zB,zC]
     refine wpAnyH_done (by kernel_rfl) ?_ _
     go_wp2_with fail
     go_meet
     case rel=>exact ⟨_,rfl,HP8.out.1,Below.trans hx08 HP8.out.2.1,hHeld5⟩
    ·go_simp
     refine hK.out _ _ ?_ (fun hHeld2=>?_)
     ·exact Hold.ext hHeld (Ext.alloc _ _)
     clear hK K
     try simp only [Act.put,zA,zB,zC]
     refine wpAnyH_ready (rs:=[4]) (by kernel_rfl) (by simp) ?_
     refine AllReadyH.cons rfl (fun K hK=>?_) AllReadyH.nil
     go_simp
     refine hK.out _ _ ?_ (fun hHeld3=>?_)
     ·exact hHeld2
     clear hK K
     try simp only [Act.put,zA,zB,zC]
     refine wpAnyH_ready (rs:=[14]) (by kernel_rfl) (by simp) ?_
     refine AllReadyH.cons rfl (fun K hK=>?_) AllReadyH.nil
     refine step_append_lies _ (by exact rfl) (.tmp 28) (.tmp 37) 151 (by exact rfl) w.heap.size 150 i1 (.agg #[.int .i64 0,.int .i64 0]) 2 16 Tryz.underlying151 hi1 hy0 hy1 hy2 rfl (by decide) (.slice a6 (2*k) c6) (2*k) (arcCells (L.take k)) (by exact rfl) (by exact own_ext HO5.out.arc ((Ext.refl w5).drew.alloc' _)) ⟨w5.heap.size,0,none⟩ 2 2 [.int .i64 t,.int .i64 cp,.int .i64 f,.int .i64 0] (by exact rfl) rfl (by intro j u hj;exact news_ok w5 [_,_,_,_] _ j u hj) (by intro u hu;simp at hu;rcases hu with rfl | rfl | rfl | rfl <;> rfl) (by decide) (by unfold maxLen;omega) (by omega) (by have:=hxw5.le;simp;omega) _ rfl ?_
     rintro g8 c8 w8 hown8 hg8 hor8 hlt8
     have hP8:=OpS.arcs (HO5.out.ext ((Ext.refl w5).drew.alloc' _)) (by have:=hxw5.le;simp;omega) (by rw [HT.out,arcCells_snoc]) hown8 hg8 (hor8.imp (fun e=>e.symm) (fun e=>congrArg some e))
     have q1:=hP8.2.2.1
     have q2:=hP8.2.2.2
     have hH8:Hold w8 xb #[.int .i64 f,.int .i64 t,.int .i64 cp]:=by
      obtain ⟨ty,hty⟩:=hHeld3
      exact ⟨ty,(hg8.block xb (Array.getElem?_eq_some_iff.1 hty).1 (fun e=>by have:=HXB.out.1 xb e.symm;omega)).trans hty⟩
     have HP8:=Lib.hid hP8
     have hx08:=hxw5.drew.alloc' (.cells #[.int .i64 t,.int .i64 cp,.int .i64 f,.int .i64 0] 150)
     clear hP8 hown8 hg8 hor8 hlt8
     refine hK.out _ _ ?_ (fun hHeld4=>?_)
     ·exact hH8
     clear hK K
     try simp only [Act.put,List.setIfInBounds_toArray]
     refine hQ 15 (v:=?_) rfl (y:=.inl ⟨by rfl,?_⟩) (h:=?_)
     rotate_left
     ·(intro w' hSw;obtain ⟨lS,cS,_,_⟩:=hSw.box;have hSS:=Ext.refl w';go_simp;try with_reducible rfl)
     simp only [Act.put]
     refine hQ 16 (v:=?_) rfl (y:=.inl ⟨by rfl,?_⟩) (h:=?_)
     rotate_left
     ·(intro w' hSw;obtain ⟨lS,cS,_,_⟩:=hSw.box;have hSS:=Ext.refl w';go_simp;try with_reducible rfl)
     simp only [Act.put]
     refine wpAnyH_ready (rs:=[17]) (by kernel_rfl) (by simp) ?_
     refine AllReadyH.cons rfl (fun K hK=>?_) AllReadyH.nil
     go_simp
     refine hK.out _ _ ?_ (fun hHeld5=>?_)
     ·exact Hold.other hH8 _ _ (by have:=HXB.out.2.2.1;show xb≠rb;omega)
     clear hK K
     try simp only [Act.put,zA,zB,zC]
     refine wpAnyH_done (by kernel_rfl) ?_ _
     go_wp2_with fail
     go_meet
     case rel=>exact ⟨_,rfl,HP8.out.1,Below.trans hx08 HP8.out.2.1,hHeld5⟩
   case rest=>
    obtain ⟨v8,rfl,hO8,hx8,hH8⟩:=hcut
    obtain ⟨a8,c8,hav8⟩:=own_form hO8.arc
    subst hav8
    have hxb8:∀ j,j<n→(vs j).ownBlock≠some xb:=fun j hj e=>by have:=HXB.out.2.1 j hj xb e;omega
    have hw1:IntKind.i64.wrap (2*(k:Int)+1)=2*(k:Int)+1:=IntWalk.i64_in _ (by omega)
    have hR8:=HR.out
    clear cr0 lr cr fr l5 c5 hx55
    have HOO:=Lib.hid hO8
    have HXW:=Lib.hid hx8
    have HHH:=Lib.hid hH8
    have HBB:=Lib.hid hxb8
    obtain ⟨ar,cr,hvs⟩:=own_form (hO8.lv.own f q1)
    have HRS:=Lib.hid (Netw.RowsTo.step hR8 (p:=f) HF.out.1.symm)
    have hln9:=Netw.RowsTo.len hR8 f
    have HRR:=Lib.hid hR8
    obtain ⟨ln,hln⟩:∃ l,l=(rows f).length:=⟨_,rfl⟩
    rw [←hln] at hvs hln9
    have HLN:=Lib.hid hln
    have HVS:=Lib.hid hvs
    have HOW:=Lib.hid (show ∀ W,Ext wc W→W.ownsRow w.heap.size 3 1 (.slice ar ln cr) ln (intCells (rows f)) from fun W h=>by
     have h9:=own_ext (show World.ownsRow wc w.heap.size 3 1 (vs f) (rows f).length (intCells (rows f)) from HOO.out.lv.own f q1) h
     rw [HVS.out,←HLN.out] at h9;exact h9)
    have cl:∀ w',Ext wc w'→w'.cell? ⟨lb,f,none⟩=some (.slice ar ln cr):=fun w' h=>by rw [h.cell (HOO.out.lv.cell f q1),HVS.out]
    have hWW:Ext wc wc:=Ext.refl _
    have hWA:=Ext.alloc wc (.cells #[.int .i64 (2*(k:Int))] 3)
    clear hln hvs hO8 hx8 hH8 hxb8 hR8
    go_upto_region 7 with fail
    go_cut [57] (fun s57 wx=>∃ (rows':Nat→List Int) (vs':Nat→Value),OpS w.heap.size rb lb n L (k+1) (Value.slice a8 (2*(k+1)) c8) rows' vs' wx∧(Netw.ofList n L).RowsTo rows' ((2*k)+1)∧Ext w wx∧Hold wx xb #[.int .i64 f,.int .i64 t,.int .i64 cp]∧∀ j,j<n→(vs' j).ownBlock≠some xb)
    case first=>
     refine wp_region_held_drew (S:=fun w'=>Hold w' xb #[.int .i64 f,.int .i64 t,.int .i64 cp]∧Hold w' rb #[(Value.slice a8 (2*(k+1)) c8),.slice (some ⟨lb,0,none⟩) n n]) (by kernel_rfl) ⟨HHH.out.drew,HOO.out.hr.drew⟩ (fun hHeld=>?_)
     refine hQ 0 (v:=?_) rfl (y:=.inl ⟨by rfl,?_⟩) (h:=?_)
     rotate_left
     ·(intro w' hSw;obtain ⟨hS1,hS2⟩:=hSw;obtain ⟨lS,cS,_,_⟩:=hS1.box;obtain ⟨lU,cU,_,_⟩:=hS2.box;have hSS:=Ext.refl w';go_simp;try with_reducible rfl)
     try simp only [Act.put,zA,zB,zC]
     refine hQ 1 (v:=?_) rfl (y:=.inl ⟨by rfl,?_⟩) (h:=?_)
     rotate_left
     ·(intro w' hSw;obtain ⟨hS1,hS2⟩:=hSw;obtain ⟨lS,cS,_,_⟩:=hS1.box;obtain ⟨lU,cU,_,_⟩:=hS2.box;have hSS:=Ext.refl w';go_simp;try with_reducible rfl)
     try simp only [Act.put,zA,zB,zC]
     refine hQ 2 (v:=?_) rfl (y:=.inl ⟨by rfl,?_⟩) (h:=?_)
     rotate_left
     ·(intro w' hSw;obtain ⟨hS1,hS2⟩:=hSw;obtain ⟨lS,cS,_,_⟩:=hS1.box;obtain ⟨lU,cU,_,_⟩:=hS2.box;have hSS:=Ext.refl w';go_simp;try with_reducible rfl)
     try simp only [Act.put,zA,zB,zC]
     refine hQ 3 (v:=?_) rfl (y:=.inl ⟨by rfl,?_⟩) (h:=?_)
     rotate_left
     ·(intro w' hSw;obtain ⟨hS1,hS2⟩:=hSw;obtain ⟨lS,cS,_,_⟩:=hS1.box;obtain ⟨lU,cU,_,_⟩:=hS2.box;have hSS:=Ext.refl w';go_simp;try with_reducible rfl)
     try simp only [Act.put,zA,zB,zC]
     refine hQ 4 (v:=?_) rfl (y:=.inl ⟨by rfl,?_⟩) (h:=?_)
     rotate_left
     ·(intro w' hSw;obtain ⟨hS1,hS2⟩:=hSw;obtain ⟨lS,cS,_,_⟩:=hS1.box;obtain ⟨lU,cU,_,_⟩:=hS2.box;have hSS:=Ext.refl w';go_simp;try with_reducible rfl)
     try simp only [Act.put,zA,zB,zC]
     refine hQ 5 (v:=?_) rfl (y:=.inl ⟨by rfl,?_⟩) (h:=?_)
     rotate_left
     ·(intro w' hSw;obtain ⟨hS1,hS2⟩:=hSw;obtain ⟨lS,cS,_,_⟩:=hS1.box;obtain ⟨lU,cU,_,_⟩:=hS2.box;have hSS:=Ext.refl w';go_simp;try with_reducible rfl)
     try simp only [Act.put,zA,zB,zC]
     refine hQ 6 (v:=?_) rfl (y:=.inl ⟨by rfl,?_⟩) (h:=?_)
     rotate_left
     ·(intro w' hSw;obtain ⟨hS1,hS2⟩:=hSw;obtain ⟨lS,cS,_,_⟩:=hS1.box;obtain ⟨lU,cU,_,_⟩:=hS2.box;have hSS:=Ext.refl w';go_simp;try with_reducible rfl)
     try simp only [Act.put,zA,zB,zC]
     refine hQ 7 (v:=?_) rfl (y:=.inl ⟨by rfl,?_⟩) (h:=?_)
     rotate_left
     ·(intro w' hSw;obtain ⟨hS1,hS2⟩:=hSw;obtain ⟨lS,cS,_,_⟩:=hS1.box;obtain ⟨lU,cU,_,_⟩:=hS2.box;have hSS:=Ext.refl w';go_simp;try with_reducible rfl)
     try simp only [Act.put,zA,zB,zC]
     refine hQ 8 (v:=?_) rfl (y:=.inl ⟨by rfl,?_⟩) (h:=?_)
     rotate_left
     ·(intro w' hSw;obtain ⟨hS1,hS2⟩:=hSw;obtain ⟨lS,cS,_,_⟩:=hS1.box;obtain ⟨lU,cU,_,_⟩:=hS2.box;have hSS:=Ext.refl w';go_simp;try with_reducible rfl)
     try simp only [Act.put,zA,zB,zC]
     refine hQ 9 (v:=?_) rfl (y:=.inl ⟨by rfl,?_⟩) (h:=?_)
     rotate_left
     ·(intro w' hSw;obtain ⟨hS1,hS2⟩:=hSw;obtain ⟨lS,cS,_,_⟩:=hS1.box;obtain ⟨lU,cU,_,_⟩:=hS2.box;have hSS:=Ext.refl w';go_simp;try with_reducible rfl)
     try simp only [Act.put,zA,zB,zC]
     refine hQ 10 (v:=?_) rfl (y:=.inl ⟨by rfl,?_⟩) (h:=?_)
     rotate_left
     ·(intro w' hSw;obtain ⟨hS1,hS2⟩:=hSw;obtain ⟨lS,cS,_,_⟩:=hS1.box;obtain ⟨lU,cU,_,_⟩:=hS2.box;have hSS:=Ext.refl w';go_simp;try with_reducible rfl)
     try simp only [Act.put,zA,zB,zC]
     refine hQ 11 (v:=?_) rfl (y:=.inl ⟨by rfl,?_⟩) (h:=?_)
     rotate_left
     ·(intro w' hSw;obtain ⟨hS1,hS2⟩:=hSw;obtain ⟨lS,cS,_,_⟩:=hS1.box;obtain ⟨lU,cU,_,_⟩:=hS2.box;have hSS:=Ext.refl w';go_simp;try with_reducible rfl)
     try simp only [Act.put,zA,zB,zC]
     refine hQ 12 (v:=?_) rfl (y:=.inl ⟨by rfl,?_⟩) (h:=?_)
     rotate_left
     ·(intro w' hSw;obtain ⟨hS1,hS2⟩:=hSw;obtain ⟨lS,cS,_,_⟩:=hS1.box;obtain ⟨lU,cU,_,_⟩:=hS2.box;have hSS:=Ext.refl w';go_simp;try with_reducible rfl)
     try simp only [Act.put,zA,zB,zC]
     refine hQ 14 (v:=?_) rfl (y:=.inl ⟨by rfl,?_⟩) (h:=?_)
     rotate_left
     ·(intro w' hSw;obtain ⟨hS1,hS2⟩:=hSw;obtain ⟨lS,cS,_,_⟩:=hS1.box;obtain ⟨lU,cU,_,_⟩:=hS2.box;have hSS:=Ext.refl w';go_simp;try with_reducible rfl)
     try simp only [Act.put,zA,zB,zC]
     skip
     refine wpAnyH_ready (rs:=[13,15]) (by kernel_rfl) (by simp) ?_
     refine AllReadyH.cons rfl (fun K hK=>?_) (AllReadyH.cons rfl (fun K hK=>?_) AllReadyH.nil)
     ·go_simp
      refine hK.out _ _ ?_ (fun hHeld2=>?_)
      ·exact hHeld
      clear hK K
      try simp only [Act.put,zA,zB,zC]
      refine wpAnyH_ready (rs:=[15]) (by kernel_rfl) (by simp) ?_
      refine AllReadyH.cons rfl (fun K hK=>?_) AllReadyH.nil
      go_simp
      refine hK.out _ _ ?_ (fun hHeld3=>?_)
      ·exact ⟨Hold.ext hHeld.1 (Ext.alloc _ _),Hold.ext hHeld.2 (Ext.alloc _ _)⟩
      clear hK K
      try simp only [Act.put,zA,zB,zC]
      refine wpAnyH_ready (rs:=[16]) (by kernel_rfl) (by simp) ?_
      refine AllReadyH.cons rfl (fun K hK=>?_) AllReadyH.nil
      refine step_append_lies _ (by exact rfl) (.tmp 54) (.tmp 56) 28 (by exact rfl) w.heap.size 3 i2 (.int .i64 0) 1 8 Tryz.underlying28 hi2 hv0 hv1 hv2 rfl (by decide) (.slice ar ln cr) ln (intCells (rows f)) (by exact rfl) (by exact HOW.out _ ((Ext.refl wc).drew.alloc' _)) ⟨(wc).heap.size,0,none⟩ 1 1 [.int .i64 (2*(k:Int))] (by exact rfl) rfl (by intro j u hj;exact news_ok wc [_] _ j u hj) (by intro u hu;simp at hu;subst hu;rfl) (by decide) (by unfold maxLen;omega) (by omega) (by have:=HXW.out.le;simp;omega) _ rfl ?_
      rintro g9 c9 w9 hown9 hg9 hor9 hlt9
      have hP9:=OpS.row (HOO.out.ext ((Ext.refl wc).drew.alloc' _)) q1 (by have:=HXW.out.le;simp;omega) (by rw [←HLN.out];omega) (by rw [←HLN.out];exact hown9) (by rw [HVS.out];exact hg9) (by rw [HVS.out];exact hor9.imp (fun e=>e.symm) (fun e=>congrArg some e))
      have j1:=hP9.2.2.1
      have j2:=hP9.2.2.2
      rw [HVS.out] at j1
      have hH9:Hold w9 xb #[.int .i64 f,.int .i64 t,.int .i64 cp]:=by
       obtain ⟨ty,hty⟩:=HHH.out.ext ((Ext.refl wc).drew.alloc' (.cells #[.int .i64 (2*(k:Int))] 3))
       exact ⟨ty,(hg9.block xb (Array.getElem?_eq_some_iff.1 hty).1 (fun e=>HBB.out f q1 (by rw [HVS.out];exact e.symm))).trans hty⟩
      have hN9:∀ j,j<n→(updV vs f (.slice (some ⟨g9,0,none⟩) (ln+1) c9) j).ownBlock≠some xb:=by
       intro j hj e
       unfold updV at e
       by_cases ej:j=f
       ·rw [if_pos ej] at e
        rcases hor9 with h | h
        ·exact HBB.out f q1 (by rw [HVS.out,h];exact e)
        ·have hlt:=HHH.out.lt
         simp [Value.ownBlock] at e
         simp at h
         omega
       ·rw [if_neg ej] at e;exact HBB.out j hj e
      have HP9:=Lib.hid hP9
      have hx09:=Ext.alloc' HXW.out.drew (.cells #[.int .i64 (2*(k:Int))] 3)
      have HN9:=Lib.hid hN9
      have hr9:=HP9.out.1.hr
      have HH9:=Lib.hid hH9
      have hrr9:Hold w9 rb #[(Value.slice a8 (2*(k+1)) c8),.slice (some ⟨lb,0,none⟩) n n]:=by
       obtain ⟨ty,hty⟩:=HOO.out.hr.ext ((Ext.refl wc).drew.alloc' (.cells #[.int .i64 (2*(k:Int))] 3))
       exact ⟨ty,(hg9.block rb (Array.getElem?_eq_some_iff.1 hty).1 (fun e=>(HOO.out.lv.off f q1 rb (by rw [HVS.out];exact e.symm)).2 (.inl rfl))).trans hty⟩
      have HRB9:=Lib.hid hrr9
      clear hP9 hown9 hg9 hor9 hlt9 hr9 hH9 hN9 hrr9
      refine hK.out _ _ ?_ (fun hHeld4=>?_)
      ·exact ⟨HH9.out,HRB9.out⟩
      clear hK K
      try simp only [Act.put,List.setIfInBounds_toArray]
      refine hQ 17 (v:=?_) rfl (y:=.inl ⟨by rfl,?_⟩) (h:=?_)
      rotate_left
      ·(intro w' hSw;obtain ⟨hS1,hS2⟩:=hSw;obtain ⟨lS,cS,_,_⟩:=hS1.box;obtain ⟨lU,cU,_,_⟩:=hS2.box;have hSS:=Ext.refl w';go_simp;try with_reducible rfl)
      simp only [Act.put]
      refine wpAnyH_ready (rs:=[18]) (by kernel_rfl) (by simp) ?_
      refine AllReadyH.cons rfl (fun K hK=>?_) AllReadyH.nil
      go_simp
      refine hK.out _ _ ?_ (fun hHeld5=>?_)
      ·exact ⟨Hold.other HH9.out _ _ (by have:=HXB.out.2.2.2;show xb≠lb;omega),Hold.other HRB9.out _ _ (by have:=HOO.out.ne2;show rb≠lb;omega)⟩
      clear hK K
      try simp only [Act.put,zA,zB,zC]
      refine wpAnyH_done (by kernel_rfl) ?_ _
      go_wp2_with fail
      go_meet
      case rel=>exact ⟨_,_,HP9.out.1,HRS.out,Below.trans hx09 HP9.out.2.1,hHeld5.1,HN9.out⟩
     ·go_simp
      refine hK.out _ _ ?_ (fun hHeld2=>?_)
      ·exact ⟨Hold.ext hHeld.1 (Ext.alloc _ _),Hold.ext hHeld.2 (Ext.alloc _ _)⟩
      clear hK K
      try simp only [Act.put,zA,zB,zC]
      refine wpAnyH_ready (rs:=[13]) (by kernel_rfl) (by simp) ?_
      refine AllReadyH.cons rfl (fun K hK=>?_) AllReadyH.nil
      go_simp
      refine hK.out _ _ ?_ (fun hHeld3=>?_)
      ·exact hHeld2
      clear hK K
      try simp only [Act.put,zA,zB,zC]
      refine wpAnyH_ready (rs:=[16]) (by kernel_rfl) (by simp) ?_
      refine AllReadyH.cons rfl (fun K hK=>?_) AllReadyH.nil
      refine step_append_lies _ (by exact rfl) (.tmp 54) (.tmp 56) 28 (by exact rfl) w.heap.size 3 i2 (.int .i64 0) 1 8 Tryz.underlying28 hi2 hv0 hv1 hv2 rfl (by decide) (.slice ar ln cr) ln (intCells (rows f)) (by exact rfl) (by exact HOW.out _ ((Ext.refl wc).drew.alloc' _)) ⟨(wc).heap.size,0,none⟩ 1 1 [.int .i64 (2*(k:Int))] (by exact rfl) rfl (by intro j u hj;exact news_ok wc [_] _ j u hj) (by intro u hu;simp at hu;subst hu;rfl) (by decide) (by unfold maxLen;omega) (by omega) (by have:=HXW.out.le;simp;omega) _ rfl ?_
      rintro g9 c9 w9 hown9 hg9 hor9 hlt9
      have hP9:=OpS.row (HOO.out.ext ((Ext.refl wc).drew.alloc' _)) q1 (by have:=HXW.out.le;simp;omega) (by rw [←HLN.out];omega) (by rw [←HLN.out];exact hown9) (by rw [HVS.out];exact hg9) (by rw [HVS.out];exact hor9.imp (fun e=>e.symm) (fun e=>congrArg some e))
      have j1:=hP9.2.2.1
      have j2:=hP9.2.2.2
      rw [HVS.out] at j1
      have hH9:Hold w9 xb #[.int .i64 f,.int .i64 t,.int .i64 cp]:=by
       obtain ⟨ty,hty⟩:=HHH.out.ext ((Ext.refl wc).drew.alloc' (.cells #[.int .i64 (2*(k:Int))] 3))
       exact ⟨ty,(hg9.block xb (Array.getElem?_eq_some_iff.1 hty).1 (fun e=>HBB.out f q1 (by rw [HVS.out];exact e.symm))).trans hty⟩
      have hN9:∀ j,j<n→(updV vs f (.slice (some ⟨g9,0,none⟩) (ln+1) c9) j).ownBlock≠some xb:=by
       intro j hj e
       unfold updV at e
       by_cases ej:j=f
       ·rw [if_pos ej] at e
        rcases hor9 with h | h
        ·exact HBB.out f q1 (by rw [HVS.out,h];exact e)
        ·have hlt:=HHH.out.lt
         simp [Value.ownBlock] at e
         simp at h
         omega
       ·rw [if_neg ej] at e;exact HBB.out j hj e
      have HP9:=Lib.hid hP9
      have hx09:=Ext.alloc' HXW.out.drew (.cells #[.int .i64 (2*(k:Int))] 3)
      have HN9:=Lib.hid hN9
      have hr9:=HP9.out.1.hr
      have HH9:=Lib.hid hH9
      have hrr9:Hold w9 rb #[(Value.slice a8 (2*(k+1)) c8),.slice (some ⟨lb,0,none⟩) n n]:=by
       obtain ⟨ty,hty⟩:=HOO.out.hr.ext ((Ext.refl wc).drew.alloc' (.cells #[.int .i64 (2*(k:Int))] 3))
       exact ⟨ty,(hg9.block rb (Array.getElem?_eq_some_iff.1 hty).1 (fun e=>(HOO.out.lv.off f q1 rb (by rw [HVS.out];exact e.symm)).2 (.inl rfl))).trans hty⟩
      have HRB9:=Lib.hid hrr9
      clear hP9 hown9 hg9 hor9 hlt9 hr9 hH9 hN9 hrr9
      refine hK.out _ _ ?_ (fun hHeld4=>?_)
      ·exact ⟨HH9.out,HRB9.out⟩
      clear hK K
      try simp only [Act.put,List.setIfInBounds_toArray]
      refine hQ 17 (v:=?_) rfl (y:=.inl ⟨by rfl,?_⟩) (h:=?_)
      rotate_left
      ·(intro w' hSw;obtain ⟨hS1,hS2⟩:=hSw;obtain ⟨lS,cS,_,_⟩:=hS1.box;obtain ⟨lU,cU,_,_⟩:=hS2.box;have hSS:=Ext.refl w';go_simp;try with_reducible rfl)
      simp only [Act.put]
      refine wpAnyH_ready (rs:=[18]) (by kernel_rfl) (by simp) ?_
      refine AllReadyH.cons rfl (fun K hK=>?_) AllReadyH.nil
      go_simp
      refine hK.out _ _ ?_ (fun hHeld5=>?_)
      ·exact ⟨Hold.other HH9.out _ _ (by have:=HXB.out.2.2.2;show xb≠lb;omega),Hold.other HRB9.out _ _ (by have:=HOO.out.ne2;show rb≠lb;omega)⟩
      clear hK K
      try simp only [Act.put,zA,zB,zC]
      refine wpAnyH_done (by kernel_rfl) ?_ _
      go_wp2_with fail
      go_meet
      case rel=>exact ⟨_,_,HP9.out.1,HRS.out,Below.trans hx09 HP9.out.2.1,hHeld5.1,HN9.out⟩
    case rest=>
     obtain ⟨rows9,vs9,hO9,hR9,hx9,hH9,hxb9⟩:=hcut
     clear cl hWW hWA HOW HOO HXW HHH HBB HRS HRR HLN HVS
     have HOO:=Lib.hid hO9
     have HXW:=Lib.hid hx9
     have HHH:=Lib.hid hH9
     have HBB:=Lib.hid hxb9
     obtain ⟨ar,cr,hvs⟩:=own_form (hO9.lv.own t q2)
     have HRS:=Lib.hid (Netw.RowsTo.step hR9 (p:=t) HF.out.2.symm)
     have hln9:=Netw.RowsTo.len hR9 t
     have HRR:=Lib.hid hR9
     obtain ⟨ln,hln⟩:∃ l,l=(rows9 t).length:=⟨_,rfl⟩
     rw [←hln] at hvs hln9
     have HLN:=Lib.hid hln
     have HVS:=Lib.hid hvs
     have HOW:=Lib.hid (show ∀ W,Ext wc W→W.ownsRow w.heap.size 3 1 (.slice ar ln cr) ln (intCells (rows9 t)) from fun W h=>by
      have h9:=own_ext (show World.ownsRow wc w.heap.size 3 1 (vs9 t) (rows9 t).length (intCells (rows9 t)) from HOO.out.lv.own t q2) h
      rw [HVS.out,←HLN.out] at h9;exact h9)
     have cl:∀ w',Ext wc w'→w'.cell? ⟨lb,t,none⟩=some (.slice ar ln cr):=fun w' h=>by rw [h.cell (HOO.out.lv.cell t q2),HVS.out]
     have hWW:Ext wc wc:=Ext.refl _
     have hWA:=Ext.alloc wc (.cells #[.int .i64 (2*(k:Int)+1)] 3)
     clear hln hvs hO9 hx9 hH9 hxb9 hR9
     go_upto_region 8 with fail
     refine wp_region_held_drew (S:=fun w'=>Hold w' xb #[.int .i64 f,.int .i64 t,.int .i64 cp]∧Hold w' rb #[(Value.slice a8 (2*(k+1)) c8),.slice (some ⟨lb,0,none⟩) n n]) (by kernel_rfl) ⟨HHH.out.drew,HOO.out.hr.drew⟩ (fun hHeld=>?_)
     refine hQ 0 (v:=?_) rfl (y:=.inl ⟨by rfl,?_⟩) (h:=?_)
     rotate_left
     ·(intro w' hSw;obtain ⟨hS1,hS2⟩:=hSw;obtain ⟨lS,cS,_,_⟩:=hS1.box;obtain ⟨lU,cU,_,_⟩:=hS2.box;have hSS:=Ext.refl w';go_simp;try with_reducible rfl)
     try simp only [Act.put,zA,zB,zC]
     refine hQ 1 (v:=?_) rfl (y:=.inl ⟨by rfl,?_⟩) (h:=?_)
     rotate_left
     ·(intro w' hSw;obtain ⟨hS1,hS2⟩:=hSw;obtain ⟨lS,cS,_,_⟩:=hS1.box;obtain ⟨lU,cU,_,_⟩:=hS2.box;have hSS:=Ext.refl w';go_simp;try with_reducible rfl)
     try simp only [Act.put,zA,zB,zC]
     refine hQ 2 (v:=?_) rfl (y:=.inl ⟨by rfl,?_⟩) (h:=?_)
     rotate_left
     ·(intro w' hSw;obtain ⟨hS1,hS2⟩:=hSw;obtain ⟨lS,cS,_,_⟩:=hS1.box;obtain ⟨lU,cU,_,_⟩:=hS2.box;have hSS:=Ext.refl w';go_simp;try with_reducible rfl)
     try simp only [Act.put,zA,zB,zC]
     refine hQ 3 (v:=?_) rfl (y:=.inl ⟨by rfl,?_⟩) (h:=?_)
     rotate_left
     ·(intro w' hSw;obtain ⟨hS1,hS2⟩:=hSw;obtain ⟨lS,cS,_,_⟩:=hS1.box;obtain ⟨lU,cU,_,_⟩:=hS2.box;have hSS:=Ext.refl w';go_simp;try with_reducible rfl)
     try simp only [Act.put,zA,zB,zC]
     refine hQ 4 (v:=?_) rfl (y:=.inl ⟨by rfl,?_⟩) (h:=?_)
     rotate_left
     ·(intro w' hSw;obtain ⟨hS1,hS2⟩:=hSw;obtain ⟨lS,cS,_,_⟩:=hS1.box;obtain ⟨lU,cU,_,_⟩:=hS2.box;have hSS:=Ext.refl w';go_simp;try with_reducible rfl)
     try simp only [Act.put,zA,zB,zC]
     refine hQ 5 (v:=?_) rfl (y:=.inl ⟨by rfl,?_⟩) (h:=?_)
     rotate_left
     ·(intro w' hSw;obtain ⟨hS1,hS2⟩:=hSw;obtain ⟨lS,cS,_,_⟩:=hS1.box;obtain ⟨lU,cU,_,_⟩:=hS2.box;have hSS:=Ext.refl w';go_simp;try with_reducible rfl)
     try simp only [Act.put,zA,zB,zC]
     refine hQ 6 (v:=?_) rfl (y:=.inl ⟨by rfl,?_⟩) (h:=?_)
     rotate_left
     ·(intro w' hSw;obtain ⟨hS1,hS2⟩:=hSw;obtain ⟨lS,cS,_,_⟩:=hS1.box;obtain ⟨lU,cU,_,_⟩:=hS2.box;have hSS:=Ext.refl w';go_simp;try with_reducible rfl)
     try simp only [Act.put,zA,zB,zC]
     refine hQ 7 (v:=?_) rfl (y:=.inl ⟨by rfl,?_⟩) (h:=?_)
     rotate_left
     ·(intro w' hSw;obtain ⟨hS1,hS2⟩:=hSw;obtain ⟨lS,cS,_,_⟩:=hS1.box;obtain ⟨lU,cU,_,_⟩:=hS2.box;have hSS:=Ext.refl w';go_simp;try with_reducible rfl)
     try simp only [Act.put,zA,zB,zC]
     refine hQ 8 (v:=?_) rfl (y:=.inl ⟨by rfl,?_⟩) (h:=?_)
     rotate_left
     ·(intro w' hSw;obtain ⟨hS1,hS2⟩:=hSw;obtain ⟨lS,cS,_,_⟩:=hS1.box;obtain ⟨lU,cU,_,_⟩:=hS2.box;have hSS:=Ext.refl w';go_simp;try with_reducible rfl)
     try simp only [Act.put,zA,zB,zC]
     refine hQ 9 (v:=?_) rfl (y:=.inl ⟨by rfl,?_⟩) (h:=?_)
     rotate_left
     ·(intro w' hSw;obtain ⟨hS1,hS2⟩:=hSw;obtain ⟨lS,cS,_,_⟩:=hS1.box;obtain ⟨lU,cU,_,_⟩:=hS2.box;have hSS:=Ext.refl w';go_simp;try with_reducible rfl)
     try simp only [Act.put,zA,zB,zC]
     refine hQ 10 (v:=?_) rfl (y:=.inl ⟨by rfl,?_⟩) (h:=?_)
     rotate_left
     ·(intro w' hSw;obtain ⟨hS1,hS2⟩:=hSw;obtain ⟨lS,cS,_,_⟩:=hS1.box;obtain ⟨lU,cU,_,_⟩:=hS2.box;have hSS:=Ext.refl w';go_simp;try with_reducible rfl)
     try simp only [Act.put,zA,zB,zC]
     refine hQ 11 (v:=?_) rfl (y:=.inl ⟨by rfl,?_⟩) (h:=?_)
     rotate_left
     ·(intro w' hSw;obtain ⟨hS1,hS2⟩:=hSw;obtain ⟨lS,cS,_,_⟩:=hS1.box;obtain ⟨lU,cU,_,_⟩:=hS2.box;have hSS:=Ext.refl w';go_simp;try with_reducible rfl)
     try simp only [Act.put,zA,zB,zC]
     refine hQ 12 (v:=?_) rfl (y:=.inl ⟨by rfl,?_⟩) (h:=?_)
     rotate_left
     ·(intro w' hSw;obtain ⟨hS1,hS2⟩:=hSw;obtain ⟨lS,cS,_,_⟩:=hS1.box;obtain ⟨lU,cU,_,_⟩:=hS2.box;have hSS:=Ext.refl w';go_simp;try with_reducible rfl)
     try simp only [Act.put,zA,zB,zC]
     refine hQ 14 (v:=?_) rfl (y:=.inl ⟨by rfl,?_⟩) (h:=?_)
     rotate_left
     ·(intro w' hSw;obtain ⟨hS1,hS2⟩:=hSw;obtain ⟨lS,cS,_,_⟩:=hS1.box;obtain ⟨lU,cU,_,_⟩:=hS2.box;have hSS:=Ext.refl w';go_simp;try with_reducible rfl)
     try simp only [Act.put,zA,zB,zC]
     refine hQ 15 (v:=?_) rfl (y:=.inl ⟨by rfl,?_⟩) (h:=?_)
     rotate_left
     ·(intro w' hSw;obtain ⟨hS1,hS2⟩:=hSw;obtain ⟨lS,cS,_,_⟩:=hS1.box;obtain ⟨lU,cU,_,_⟩:=hS2.box;have hSS:=Ext.refl w';go_simp;try with_reducible rfl)
     try simp only [Act.put,zA,zB,zC]
     refine wpAnyH_ready (rs:=[13,16]) (by kernel_rfl) (by simp) ?_
     refine AllReadyH.cons rfl (fun K hK=>?_) (AllReadyH.cons rfl (fun K hK=>?_) AllReadyH.nil)
     ·go_simp
      refine hK.out _ _ ?_ (fun hHeld2=>?_)
      ·exact hHeld
      clear hK K
      try simp only [Act.put,zA,zB,zC]
      refine wpAnyH_ready (rs:=[16]) (by kernel_rfl) (by simp) ?_
      refine AllReadyH.cons rfl (fun K hK=>?_) AllReadyH.nil
      go_simp
      refine hK.out _ _ ?_ (fun hHeld3=>?_)
      ·exact ⟨Hold.ext hHeld.1 (Ext.alloc _ _),Hold.ext hHeld.2 (Ext.alloc _ _)⟩
      clear hK K
      try simp only [Act.put,zA,zB,zC]
      refine wpAnyH_ready (rs:=[17]) (by kernel_rfl) (by simp) ?_
      refine AllReadyH.cons rfl (fun K hK=>?_) AllReadyH.nil
      refine step_append_lies _ (by exact rfl) (.tmp 72) (.tmp 75) 28 (by exact rfl) w.heap.size 3 i2 (.int .i64 0) 1 8 Tryz.underlying28 hi2 hv0 hv1 hv2 rfl (by decide) (.slice ar ln cr) ln (intCells (rows9 t)) (by exact rfl) (by exact HOW.out _ ((Ext.refl wc).drew.alloc' _)) ⟨(wc).heap.size,0,none⟩ 1 1 [.int .i64 (2*(k:Int)+1)] (by exact rfl) rfl (by intro j u hj;exact news_ok wc [_] _ j u hj) (by intro u hu;simp at hu;subst hu;rfl) (by decide) (by unfold maxLen;omega) (by omega) (by have:=HXW.out.le;simp;omega) _ rfl ?_
      rintro g9 c9 w9 hown9 hg9 hor9 hlt9
      have hP9:=OpS.row (HOO.out.ext ((Ext.refl wc).drew.alloc' _)) q2 (by have:=HXW.out.le;simp;omega) (by rw [←HLN.out];omega) (by rw [←HLN.out];exact hown9) (by rw [HVS.out];exact hg9) (by rw [HVS.out];exact hor9.imp (fun e=>e.symm) (fun e=>congrArg some e))
      have j1:=hP9.2.2.1
      have j2:=hP9.2.2.2
      rw [HVS.out] at j1
      have hH9:Hold w9 xb #[.int .i64 f,.int .i64 t,.int .i64 cp]:=by
       obtain ⟨ty,hty⟩:=HHH.out.ext ((Ext.refl wc).drew.alloc' (.cells #[.int .i64 (2*(k:Int)+1)] 3))
       exact ⟨ty,(hg9.block xb (Array.getElem?_eq_some_iff.1 hty).1 (fun e=>HBB.out t q2 (by rw [HVS.out];exact e.symm))).trans hty⟩
      have hN9:∀ j,j<n→(updV vs9 t (.slice (some ⟨g9,0,none⟩) (ln+1) c9) j).ownBlock≠some xb:=by
       intro j hj e
       unfold updV at e
       by_cases ej:j=t
       ·rw [if_pos ej] at e
        rcases hor9 with h | h
        ·exact HBB.out t q2 (by rw [HVS.out,h];exact e)
        ·have hlt:=HHH.out.lt
         simp [Value.ownBlock] at e
         simp at h
         omega
       ·rw [if_neg ej] at e;exact HBB.out j hj e
      have HP9:=Lib.hid hP9
      have hx09:=Ext.alloc' HXW.out.drew (.cells #[.int .i64 (2*(k:Int)+1)] 3)
      have HN9:=Lib.hid hN9
      have hr9:=HP9.out.1.hr
      have HH9:=Lib.hid hH9
      have hrr9:Hold w9 rb #[(Value.slice a8 (2*(k+1)) c8),.slice (some ⟨lb,0,none⟩) n n]:=by
       obtain ⟨ty,hty⟩:=HOO.out.hr.ext ((Ext.refl wc).drew.alloc' (.cells #[.int .i64 (2*(k:Int)+1)] 3))
       exact ⟨ty,(hg9.block rb (Array.getElem?_eq_some_iff.1 hty).1 (fun e=>(HOO.out.lv.off t q2 rb (by rw [HVS.out];exact e.symm)).2 (.inl rfl))).trans hty⟩
      have HRB9:=Lib.hid hrr9
      clear hP9 hown9 hg9 hor9 hlt9 hr9 hH9 hN9 hrr9
      refine hK.out _ _ ?_ (fun hHeld4=>?_)
      ·exact ⟨HH9.out,HRB9.out⟩
      clear hK K
      try simp only [Act.put,List.setIfInBounds_toArray]
      refine hQ 18 (v:=?_) rfl (y:=.inl ⟨by rfl,?_⟩) (h:=?_)
      rotate_left
      ·(intro w' hSw;obtain ⟨hS1,hS2⟩:=hSw;obtain ⟨lS,cS,_,_⟩:=hS1.box;obtain ⟨lU,cU,_,_⟩:=hS2.box;have hSS:=Ext.refl w';go_simp;try with_reducible rfl)
      simp only [Act.put]
      refine wpAnyH_ready (rs:=[19]) (by kernel_rfl) (by simp) ?_
      refine AllReadyH.cons rfl (fun K hK=>?_) AllReadyH.nil
      go_simp
      refine hK.out _ _ ?_ (fun hHeld5=>?_)
      ·exact ⟨Hold.other HH9.out _ _ (by have:=HXB.out.2.2.2;show xb≠lb;omega),Hold.other HRB9.out _ _ (by have:=HOO.out.ne2;show rb≠lb;omega)⟩
      clear hK K
      try simp only [Act.put,zA,zB,zC]
      refine wpAnyH_done (by kernel_rfl) ?_ _
      clear hHeld hHeld2 hHeld3 hHeld4
      go_wp2_with fail
      go_roundg (m - (k+1))
      case rel=>exact ⟨k+1,_,_,_,by omega,rfl,by go_num,HP9.out.1,HRS.out,Below.trans hx09 HP9.out.2.1⟩
      case measure=>omega
     ·go_simp
      refine hK.out _ _ ?_ (fun hHeld2=>?_)
      ·exact ⟨Hold.ext hHeld.1 (Ext.alloc _ _),Hold.ext hHeld.2 (Ext.alloc _ _)⟩
      clear hK K
      try simp only [Act.put,zA,zB,zC]
      refine wpAnyH_ready (rs:=[13]) (by kernel_rfl) (by simp) ?_
      refine AllReadyH.cons rfl (fun K hK=>?_) AllReadyH.nil
      go_simp
      refine hK.out _ _ ?_ (fun hHeld3=>?_)
      ·exact hHeld2
      clear hK K
      try simp only [Act.put,zA,zB,zC]
      refine wpAnyH_ready (rs:=[17]) (by kernel_rfl) (by simp) ?_
      refine AllReadyH.cons rfl (fun K hK=>?_) AllReadyH.nil
      refine step_append_lies _ (by exact rfl) (.tmp 72) (.tmp 75) 28 (by exact rfl) w.heap.size 3 i2 (.int .i64 0) 1 8 Tryz.underlying28 hi2 hv0 hv1 hv2 rfl (by decide) (.slice ar ln cr) ln (intCells (rows9 t)) (by exact rfl) (by exact HOW.out _ ((Ext.refl wc).drew.alloc' _)) ⟨(wc).heap.size,0,none⟩ 1 1 [.int .i64 (2*(k:Int)+1)] (by exact rfl) rfl (by intro j u hj;exact news_ok wc [_] _ j u hj) (by intro u hu;simp at hu;subst hu;rfl) (by decide) (by unfold maxLen;omega) (by omega) (by have:=HXW.out.le;simp;omega) _ rfl ?_
      rintro g9 c9 w9 hown9 hg9 hor9 hlt9
      have hP9:=OpS.row (HOO.out.ext ((Ext.refl wc).drew.alloc' _)) q2 (by have:=HXW.out.le;simp;omega) (by rw [←HLN.out];omega) (by rw [←HLN.out];exact hown9) (by rw [HVS.out];exact hg9) (by rw [HVS.out];exact hor9.imp (fun e=>e.symm) (fun e=>congrArg some e))
      have j1:=hP9.2.2.1
      have j2:=hP9.2.2.2
      rw [HVS.out] at j1
      have hH9:Hold w9 xb #[.int .i64 f,.int .i64 t,.int .i64 cp]:=by
       obtain ⟨ty,hty⟩:=HHH.out.ext ((Ext.refl wc).drew.alloc' (.cells #[.int .i64 (2*(k:Int)+1)] 3))
       exact ⟨ty,(hg9.block xb (Array.getElem?_eq_some_iff.1 hty).1 (fun e=>HBB.out t q2 (by rw [HVS.out];exact e.symm))).trans hty⟩
      have hN9:∀ j,j<n→(updV vs9 t (.slice (some ⟨g9,0,none⟩) (ln+1) c9) j).ownBlock≠some xb:=by
       intro j hj e
       unfold updV at e
       by_cases ej:j=t
       ·rw [if_pos ej] at e
        rcases hor9 with h | h
        ·exact HBB.out t q2 (by rw [HVS.out,h];exact e)
        ·have hlt:=HHH.out.lt
         simp [Value.ownBlock] at e
         simp at h
         omega
       ·rw [if_neg ej] at e;exact HBB.out j hj e
      have HP9:=Lib.hid hP9
      have hx09:=Ext.alloc' HXW.out.drew (.cells #[.int .i64 (2*(k:Int)+1)] 3)
      have HN9:=Lib.hid hN9
      have hr9:=HP9.out.1.hr
      have HH9:=Lib.hid hH9
      have hrr9:Hold w9 rb #[(Value.slice a8 (2*(k+1)) c8),.slice (some ⟨lb,0,none⟩) n n]:=by
       obtain ⟨ty,hty⟩:=HOO.out.hr.ext ((Ext.refl wc).drew.alloc' (.cells #[.int .i64 (2*(k:Int)+1)] 3))
       exact ⟨ty,(hg9.block rb (Array.getElem?_eq_some_iff.1 hty).1 (fun e=>(HOO.out.lv.off t q2 rb (by rw [HVS.out];exact e.symm)).2 (.inl rfl))).trans hty⟩
      have HRB9:=Lib.hid hrr9
      clear hP9 hown9 hg9 hor9 hlt9 hr9 hH9 hN9 hrr9
      refine hK.out _ _ ?_ (fun hHeld4=>?_)
      ·exact ⟨HH9.out,HRB9.out⟩
      clear hK K
      try simp only [Act.put,List.setIfInBounds_toArray]
      refine hQ 18 (v:=?_) rfl (y:=.inl ⟨by rfl,?_⟩) (h:=?_)
      rotate_left
      ·(intro w' hSw;obtain ⟨hS1,hS2⟩:=hSw;obtain ⟨lS,cS,_,_⟩:=hS1.box;obtain ⟨lU,cU,_,_⟩:=hS2.box;have hSS:=Ext.refl w';go_simp;try with_reducible rfl)
      simp only [Act.put]
      refine wpAnyH_ready (rs:=[19]) (by kernel_rfl) (by simp) ?_
      refine AllReadyH.cons rfl (fun K hK=>?_) AllReadyH.nil
      go_simp
      refine hK.out _ _ ?_ (fun hHeld5=>?_)
      ·exact ⟨Hold.other HH9.out _ _ (by have:=HXB.out.2.2.2;show xb≠lb;omega),Hold.other HRB9.out _ _ (by have:=HOO.out.ne2;show rb≠lb;omega)⟩
      clear hK K
      try simp only [Act.put,zA,zB,zC]
      refine wpAnyH_done (by kernel_rfl) ?_ _
      clear hHeld hHeld2 hHeld3 hHeld4
      go_wp2_with fail
      go_roundg (m - (k+1))
      case rel=>exact ⟨k+1,_,_,_,by omega,rfl,by go_num,HP9.out.1,HRS.out,Below.trans hx09 HP9.out.2.1⟩
      case measure=>omega
  ·have hke:k=m:=by omega
   subst hke
   have HP:=Lib.hid (OpS.done (by rw [←HM.out];exact HOR.out) (by rw [←HM.out];exact HR.out))
   go_wp2_with fail
   go_ret
   obtain ⟨R,hR1,hR2⟩:=HP.out
   exact ⟨hxr,R,by rw [hR1];rfl,hR2⟩
end Go.Proofs.YtnknkkmdbnaglaaGreat
