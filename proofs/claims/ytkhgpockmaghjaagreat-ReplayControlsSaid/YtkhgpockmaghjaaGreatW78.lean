/- Contracts and laws in plain Lean for RApp: group W78. -/
import Derived.Test.YtkhgpockmaghjaaGreatW71
import Derived.Test.YtkhgpockmaghjaaGreatW15
import Derived.Test.YtkhgpockmaghjaaGreatW56
import Derived.Test.YtkhgpockmaghjaaGreatW06
set_option maxRecDepth 100000
namespace Go.Proofs.YtkhgpockmaghjaaGreat
open Go.RowKit Go.Shelf
attribute [local go_sem] Oper.semAt_some
set_option maxHeartbeats 1000000 in
theorem rnumber13_any (w : World) (T : TM) (hT : T.At w) (hn : T.n ≤ 1000) (he : ∀ k, k < T.n → T.en k ≤ 100000) (p i : Nat) (hx : T.toTr.V (p, i)) :
    Calls Tryz.prog 60 #[T.val,.agg #[.int .i64 (p:Nat),.int .i64 ((i:Nat)+1)]] w fun e w'=>e=.returned (.int .i64 (numE T.toTr (p,i):Nat))∧Ext w w':=by
 have hp:p<T.n:=hx.1
 have hi:i<T.en p:=hx.2
 have hep:=he p hp
 have HT:=Lib.hid hT
 have HE:=Lib.hid he
 obtain ⟨ta,hta⟩:∃ z,z=T.a:=⟨_,rfl⟩
 obtain rfl:ta=some ⟨T.b,T.off,none⟩:=by rw [hta];exact hT.P.pa (by omega)
 simp only [TM.val,←hta]
 have pb:=hT.P.pb (by omega)
 clear hT hx hta he
 go_enter Tryz.func60,Tryz.ntmps60
 go_upto_region 1 with fail
 refine boxed2 (w:=w) (G:=fun x=>Code.wp _ _ _ _ x) ?_
 intro w1 hx1 hs1 ⟨l0,c0,_,_⟩ ⟨l1,c1,_,_⟩
 have hx11:Ext w1 w1:=Ext.refl _
 clear hs1
 go_wp2_with fail
 go_loopg [5,6] p (fun gg v5 v6 wr=>∃ q:Nat,q≤p∧gg=p - q∧v6=.int .i64 q∧v5=.int .i64 (tot T.en q:Nat)∧tot T.en q≤100000*q∧Ext w1 wr)
 case atStart=>exact ⟨0,by omega,rfl,rfl,rfl,by show 0≤100000*0;omega,hx11⟩
 case round=>
  obtain ⟨q,hq,rfl,rfl,rfl,ht,hxr⟩:=hrel
  have hxw:=hx1.trans hxr
  have hqn:q<T.n:=by omega
  have hqn':(q:Int)<(T.n:Int):=by omega
  by_cases hlt:q<p
  ·have hlt':(q:Int)<(p:Int):=by omega
   obtain ⟨eq,heq⟩:∃ z,z=T.en q:=⟨_,rfl⟩
   have p2:∀ w',Ext w w'→w'.cell? ⟨T.b,T.off+q*3+2,none⟩=some (.slice (T.ea q) eq (T.ec q)):=fun w' h=>by rw [heq];exact HT.out.P.p2 w' h q hqn
   have heq2:eq≤100000:=by rw [heq];exact HE.out q hqn
   have HM:=Lib.hid (show tot T.en (q+1)=tot T.en q+eq from by rw [heq];rfl)
   obtain ⟨s,hs⟩:∃ s,s=tot T.en q:=⟨_,rfl⟩
   rw [←hs] at HM ht ⊢
   have hw1:IntKind.i64.wrap ((s:Int)+(eq:Int))=((s+eq:Nat):Int):=by rw [IntWalk.i64_in _ (by omega)];omega
   clear hs heq
   go_wp2_with fail
   go_roundg (p - (q+1))
   case rel=>exact ⟨q+1,by omega,rfl,by go_num,congrArg (Value.int .i64) (by rw [HM.out];omega),by rw [HM.out];omega,hxr⟩
   case measure=>omega
  ·obtain rfl:q=p:=by omega
   have HNE:=Lib.hid (show numE T.toTr (q,i)=tot T.en q+i from rfl)
   obtain ⟨s,hs⟩:∃ s,s=tot T.en q:=⟨_,rfl⟩
   rw [←hs] at HNE ht ⊢
   clear hs
   have hw1:IntKind.i64.wrap ((s:Int)+((i:Int)+1))=(s:Int)+((i:Int)+1):=IntWalk.i64_in _ (by omega)
   have hw2:IntKind.i64.wrap ((s:Int)+((i:Int)+1) - 1)=(s:Int)+((i:Int)+1) - 1:=IntWalk.i64_in _ (by omega)
   go_wp2_with fail
   go_ret
   exact ⟨congrArg (fun z:Int=>Ending.returned (.int .i64 z)) (by rw [HNE.out];omega),hxw⟩
set_option maxHeartbeats 2000000 in
theorem rsamesyncs_any (w : World) (D E : SyD) (hD : D.At w) (hE : E.At w) :
    Calls Tryz.prog 16 #[.slice D.s.a D.s.n D.s.c,.slice E.s.a E.s.n E.s.c] w (BoolPost (D.s.n=E.s.n∧∀ i,i<D.s.n→D.at i=E.at i) w):=by
 have hn:=hD.hn
 have hn2:=hE.hn
 have HD:=Lib.hid hD
 have HE:=Lib.hid hE
 obtain ⟨da,hda⟩:∃ z,z=D.s.a:=⟨_,rfl⟩
 obtain ⟨ea,hea⟩:∃ z,z=E.s.a:=⟨_,rfl⟩
 have HDA:=Lib.hid hda
 have HEA:=Lib.hid hea
 rw [←hda,←hea]
 have hww:Ext w w:=Ext.refl _
 clear hD hE hda hea
 go_enter Tryz.func16,Tryz.ntmps16
 by_cases hnn:D.s.n=E.s.n
 case neg=>
  have d0:((D.s.n:Int) == (E.s.n:Int))=false:=by simpa using fun h:(D.s.n:Int)=E.s.n=>hnn (by omega)
  have HNN:=Lib.hid hnn
  clear hnn
  go_wp2_with fail
  go_ret
  exact ⟨false,rfl,⟨fun h=>(by cases h),fun h=>absurd h.1 HNN.out⟩,hww⟩
 have d0:((D.s.n:Int) == (E.s.n:Int))=true:=by rw [hnn];simp
 have HEQ:=Lib.hid hnn
 clear hnn
 go_wp2_with fail
 go_loopg [5] D.s.n (fun gg v5 wr=>∃ k:Nat,k≤D.s.n∧gg=D.s.n - k∧v5=.int .i64 k∧Ext w wr∧∀ i,i<k→D.at i=E.at i)
 case atStart=>exact ⟨0,by omega,rfl,rfl,hww,fun i h=>absurd h (Nat.not_lt_zero _)⟩
 case round=>
  obtain ⟨k,hk,rfl,rfl,hxw,hN⟩:=hrel
  have HN:=Lib.hid hN
  clear hN
  by_cases hlt:k<D.s.n
  case neg=>
   obtain rfl:k=D.s.n:=by omega
   go_wp2_with fail
   go_ret
   exact ⟨true,rfl,⟨fun _=>⟨HEQ.out,HN.out⟩,fun _=>rfl⟩,hxw⟩
  have hlt':(k:Int)<(D.s.n:Int):=by omega
  have hltE:k<E.s.n:=by have:=HEQ.out;omega
  have hltE':(k:Int)<(E.s.n:Int):=by omega
  obtain rfl:da=_:=HDA.out.trans (HD.out.ha (by omega))
  obtain rfl:ea=_:=HEA.out.trans (HE.out.ha (by omega))
  have pb:∀ w',Ext w w'→D.s.b<w'.heap.size:=fun w' y=>Nat.lt_of_lt_of_le (HD.out.hb (by omega)) y.le
  have pb2:∀ w',Ext w w'→E.s.b<w'.heap.size:=fun w' y=>Nat.lt_of_lt_of_le (HE.out.hb (by omega)) y.le
  have hg0:∀ d os,Ext w (Sort.grow (redrawn wr d) os):=fun d os=>hxw.trans (below_regrown wr d os)
  obtain ⟨x0,hx0⟩:∃ z,z=(D.x k).1:=⟨_,rfl⟩
  obtain ⟨x1,hx1'⟩:∃ z,z=(D.x k).2:=⟨_,rfl⟩
  obtain ⟨x2,hx2'⟩:∃ z,z=(D.y k).1:=⟨_,rfl⟩
  obtain ⟨x3,hx3'⟩:∃ z,z=(D.y k).2:=⟨_,rfl⟩
  obtain ⟨v0,hv0⟩:∃ z,z=(E.x k).1:=⟨_,rfl⟩
  obtain ⟨v1,hv1⟩:∃ z,z=(E.x k).2:=⟨_,rfl⟩
  obtain ⟨v2,hv2⟩:∃ z,z=(E.y k).1:=⟨_,rfl⟩
  obtain ⟨v3,hv3⟩:∃ z,z=(E.y k).2:=⟨_,rfl⟩
  have p0:∀ w',Ext w w'→w'.cell? ⟨D.s.b,D.s.o+k*4,none⟩=some (.int .i64 x0):=fun w' y=>by rw [hx0];exact y.cell (HD.out.c0 k hlt)
  have p1:∀ w',Ext w w'→w'.cell? ⟨D.s.b,D.s.o+k*4+1,none⟩=some (.int .i64 x1):=fun w' y=>by rw [hx1'];exact y.cell (HD.out.c1 k hlt)
  have p2:∀ w',Ext w w'→w'.cell? ⟨D.s.b,D.s.o+k*4+2,none⟩=some (.int .i64 x2):=fun w' y=>by rw [hx2'];exact y.cell (HD.out.c2 k hlt)
  have p3:∀ w',Ext w w'→w'.cell? ⟨D.s.b,D.s.o+k*4+3,none⟩=some (.int .i64 x3):=fun w' y=>by rw [hx3'];exact y.cell (HD.out.c3 k hlt)
  have q0:∀ w',Ext w w'→w'.cell? ⟨E.s.b,E.s.o+k*4,none⟩=some (.int .i64 v0):=fun w' y=>by rw [hv0];exact y.cell (HE.out.c0 k hltE)
  have q1:∀ w',Ext w w'→w'.cell? ⟨E.s.b,E.s.o+k*4+1,none⟩=some (.int .i64 v1):=fun w' y=>by rw [hv1];exact y.cell (HE.out.c1 k hltE)
  have q2:∀ w',Ext w w'→w'.cell? ⟨E.s.b,E.s.o+k*4+2,none⟩=some (.int .i64 v2):=fun w' y=>by rw [hv2];exact y.cell (HE.out.c2 k hltE)
  have q3:∀ w',Ext w w'→w'.cell? ⟨E.s.b,E.s.o+k*4+3,none⟩=some (.int .i64 v3):=fun w' y=>by rw [hv3];exact y.cell (HE.out.c3 k hltE)
  have HX:=Lib.hid (show D.at k=((x0,x1),(x2,x3)) from by rw [hx0,hx1',hx2',hx3'];rfl)
  have HX2:=Lib.hid (show E.at k=((v0,v1),(v2,v3)) from by rw [hv0,hv1,hv2,hv3];rfl)
  clear hx0 hx1' hx2' hx3' hv0 hv1 hv2 hv3
  by_cases e0:x0=v0
  case neg=>
   have d0:(x0 == v0)=false:=by simpa using e0
   have HNN:=Lib.hid (show D.at k≠E.at k from fun h=>e0 (by rw [HX.out,HX2.out] at h;simp at h;omega))
   go_upto_region 6 with fail
   refine wp_region_quiet_below (by kernel_rfl) (by kernel_rfl) ?_
   repeat (go_big_quiet_step (fail))
   refine wpQuiet_nil ?_
   intro _ hw'
   obtain ⟨⟨dq,osq⟩,hw''⟩:=hw'
   subst hw''
   have hx2:=hg0 dq osq
   have hxw2:=hg0 dq osq
   clear hg0
   generalize Sort.grow (redrawn wr dq) osq=w2 at hx2 hxw2 ⊢
   go_wp2_with fail
   go_ret
   exact ⟨false,rfl,⟨fun h=>(by cases h),fun h=>absurd (h.2 k hlt) HNN.out⟩,hxw2⟩
  subst e0
  by_cases e1:x1=v1
  case neg=>
   have d1:(x1 == v1)=false:=by simpa using e1
   have HNN:=Lib.hid (show D.at k≠E.at k from fun h=>e1 (by rw [HX.out,HX2.out] at h;simp at h;omega))
   go_upto_region 6 with fail
   refine wp_region_quiet_below (by kernel_rfl) (by kernel_rfl) ?_
   repeat (go_big_quiet_step (fail))
   refine wpQuiet_nil ?_
   intro _ hw'
   obtain ⟨⟨dq,osq⟩,hw''⟩:=hw'
   subst hw''
   have hx2:=hg0 dq osq
   have hxw2:=hg0 dq osq
   clear hg0
   generalize Sort.grow (redrawn wr dq) osq=w2 at hx2 hxw2 ⊢
   go_wp2_with fail
   go_ret
   exact ⟨false,rfl,⟨fun h=>(by cases h),fun h=>absurd (h.2 k hlt) HNN.out⟩,hxw2⟩
  subst e1
  by_cases e2:x2=v2
  case neg=>
   have d2:(x2 == v2)=false:=by simpa using e2
   have HNN:=Lib.hid (show D.at k≠E.at k from fun h=>e2 (by rw [HX.out,HX2.out] at h;simp at h;omega))
   go_upto_region 6 with fail
   refine wp_region_quiet_below (by kernel_rfl) (by kernel_rfl) ?_
   repeat (go_big_quiet_step (fail))
   refine wpQuiet_nil ?_
   intro _ hw'
   obtain ⟨⟨dq,osq⟩,hw''⟩:=hw'
   subst hw''
   have hx2:=hg0 dq osq
   have hxw2:=hg0 dq osq
   clear hg0
   generalize Sort.grow (redrawn wr dq) osq=w2 at hx2 hxw2 ⊢
   go_wp2_with fail
   go_ret
   exact ⟨false,rfl,⟨fun h=>(by cases h),fun h=>absurd (h.2 k hlt) HNN.out⟩,hxw2⟩
  subst e2
  by_cases e3:x3=v3
  case neg=>
   have d3:(x3 == v3)=false:=by simpa using e3
   have HNN:=Lib.hid (show D.at k≠E.at k from fun h=>e3 (by rw [HX.out,HX2.out] at h;simp at h;omega))
   go_upto_region 6 with fail
   refine wp_region_quiet_below (by kernel_rfl) (by kernel_rfl) ?_
   repeat (go_big_quiet_step (fail))
   refine wpQuiet_nil ?_
   intro _ hw'
   obtain ⟨⟨dq,osq⟩,hw''⟩:=hw'
   subst hw''
   have hx2:=hg0 dq osq
   have hxw2:=hg0 dq osq
   clear hg0
   generalize Sort.grow (redrawn wr dq) osq=w2 at hx2 hxw2 ⊢
   go_wp2_with fail
   go_ret
   exact ⟨false,rfl,⟨fun h=>(by cases h),fun h=>absurd (h.2 k hlt) HNN.out⟩,hxw2⟩
  subst e3
  have HY:=Lib.hid (show D.at k=E.at k from HX.out.trans HX2.out.symm)
  go_upto_region 6 with fail
  refine wp_region_quiet_below (by kernel_rfl) (by kernel_rfl) ?_
  repeat (go_big_quiet_step (fail))
  refine wpQuiet_nil ?_
  intro _ hw'
  obtain ⟨⟨dq,osq⟩,hw''⟩:=hw'
  subst hw''
  have hx2:=hg0 dq osq
  have hxw2:=hg0 dq osq
  clear hg0
  generalize Sort.grow (redrawn wr dq) osq=w2 at hx2 hxw2 ⊢
  go_wp2_with fail
  go_roundg (D.s.n - (k+1))
  case rel=>exact ⟨k+1,by omega,rfl,by go_num,hx2,fun i hi=>by
   by_cases e:i=k
   ·subst e;exact HY.out
   ·exact HN.out i (by omega)⟩
  case measure=>omega
theorem BRow.set {w:World} {g n:Nat} {f:Nat→Bool} (h:BRow w g n f) {j:Nat} (hj:j<n) (b:Bool):BRow (w.setCell ⟨g,j,none⟩ (.bool b)) g n (fun c=>if c=j then b else f c):=by
 have hz:w.heap.size≤(w.setCell ⟨g,j,none⟩ (.bool b)).heap.size:=by simp
 refine ⟨fun c hc=>?_,fun o=>(frozen_set _ _ _ _).trans (h.fr o),Nat.lt_of_lt_of_le h.lt hz⟩
 rw [cell_set w g j c (.bool b) (h.c j hj)]
 by_cases e2:c=j
 ·rw [if_pos e2,if_pos e2]
 ·rw [if_neg e2,if_neg e2];exact h.c c hc
theorem BRow.extN {w w':World} {g n:Nat} {f:Nat→Bool} (h:BRow w g n f) (x:Ext w w'):BRow w' g n f:=h.block x.le (x.block g h.lt)
def Tr.SntTo (T:Tr) (p k m:Nat):Prop:=∃ q j,q<T.n∧j<T.en q∧(q<p∨(q=p∧j<k))∧T.kind q j=2∧T.msg q j=(m:Int)
theorem snt_end {T:Tr} {p m:Nat}:T.SntTo p (T.en p) m↔T.SntTo (p+1) 0 m:=by
 constructor
 ·rintro ⟨q,j,h1,h2,h3,h4⟩;exact ⟨q,j,h1,h2,by omega,h4⟩
 ·rintro ⟨q,j,h1,h2,h3,h4⟩
  refine ⟨q,j,h1,h2,?_,h4⟩
  rcases h3 with h | ⟨_,h⟩
  ·by_cases e:q=p
   ·subst e;exact .inr ⟨rfl,h2⟩
   ·exact .inl (by omega)
  ·omega
theorem snt_free {T:Tr} {p m:Nat} (hp:p=T.n):T.SntTo p 0 m↔¬T.Free m:=by
 subst hp
 constructor
 ·rintro ⟨q,j,h1,h2,_,h4,h5⟩ hF;exact hF ⟨(q,j),h1,h2⟩ ⟨h4,h5⟩
 ·intro h
  apply Classical.byContradiction
  intro h2
  refine h fun ⟨⟨q,j⟩,h3,h4⟩ ⟨h5,h6⟩=>h2 ⟨q,j,h3,h4,.inl h3,h5,h6⟩
theorem snt_no {T:Tr} {p k m:Nat} (h:T.kind p k≠2):T.SntTo p (k+1) m↔T.SntTo p k m:=by
 constructor
 ·rintro ⟨q,j,h1,h2,h3,h4,h5⟩
  refine ⟨q,j,h1,h2,?_,h4,h5⟩
  rcases h3 with h3 | ⟨rfl,h3⟩
  ·exact .inl h3
  ·by_cases e:j=k
   ·subst e;exact absurd h4 h
   ·exact .inr ⟨rfl,by omega⟩
 ·rintro ⟨q,j,h1,h2,h3,h4⟩;exact ⟨q,j,h1,h2,by omega,h4⟩
theorem snt_yes {T:Tr} {p k m m':Nat} (hp:p<T.n) (hk:k<T.en p) (h:T.kind p k=2) (hm:T.msg p k=(m:Int)):T.SntTo p (k+1) m'↔m'=m∨T.SntTo p k m':=by
 constructor
 ·rintro ⟨q,j,h1,h2,h3,h4,h5⟩
  rcases h3 with h3 | ⟨rfl,h3⟩
  ·exact .inr ⟨q,j,h1,h2,.inl h3,h4,h5⟩
  ·by_cases e:j=k
   ·subst e;rw [hm] at h5;exact .inl (by omega)
   ·exact .inr ⟨q,j,h1,h2,.inr ⟨rfl,by omega⟩,h4,h5⟩
 ·rintro (rfl | ⟨q,j,h1,h2,h3,h4⟩)
  ·exact ⟨p,k,hp,hk,.inr ⟨rfl,by omega⟩,h,hm⟩
  ·exact ⟨q,j,h1,h2,by omega,h4⟩
def NumsPost (T:Tr) (w:World) (e:Ending) (w':World):Prop:=Ext w w'∧∃ g f,e=.returned (.slice (some ⟨g,0,none⟩) 200 200)∧w.heap.size≤g∧BRow w' g 200 f∧∀ m,m<200→(f m=true↔¬T.Free m)
set_option maxHeartbeats 2000000 in
theorem rnumbers_any (w : World) (T : TM) (hT : T.At w) (hV : T.toTr.Valid) :
    Calls Tryz.prog 57 #[T.val] w (NumsPost T.toTr w):=by
 obtain ⟨j0,hj0,hy0,hy1,hy2⟩:=info_parts infoBool
 unfold NumsPost
 have HT:=Lib.hid hT
 have HV:=Lib.hid hV
 have hn8:T.n≤8:=hV.n8
 obtain ⟨ta,hta⟩:∃ z,z=T.a:=⟨_,rfl⟩
 have HTA:=Lib.hid hta
 simp only [TM.val,←hta]
 clear hT hV hta
 go_enter Tryz.func57,Tryz.ntmps57
 go_upto_region 1 with fail
 refine boxed1 (w:=w) (G:=fun x=>Code.wp _ _ _ _ x) ?_
 intro w1 hx1 hs1 ⟨l0,c0,_,_⟩
 have hx11:Ext w1 w1:=Ext.refl _
 have HS1:=Lib.hid hs1
 clear hs1
 go_upto_region 2 with (at_make;refine wpList_make_full _ rfl _ _ 68 rfl w1.heap.size 4 j0 (.bool false) 1 Tryz.underlying68 hj0 hy0 hy1 .i64 .i64 _ _ 200 rfl rfl rfl rfl (by rw [hy2];omega) (by unfold maxLen;omega) (Nat.le_refl _) ?_;intro w4 hown4 hg4;have hx4:Ext w1 w4:=((Below.refl _ _).grown hg4 (Nat.le_refl _) (by simp));have HR4:=Lib.hid (BRow.made hown4);clear hown4 hg4)
 obtain ⟨g,hg⟩:∃ z,z=w1.heap.size:=⟨_,rfl⟩
 rw [←hg] at HR4 ⊢
 have HG:=Lib.hid hg
 clear hg
 go_wp2_with fail
 go_loopg [4] T.n (fun gg v4 wr=>∃ (p:Nat) (f:Nat→Bool),p≤T.n∧gg=T.n - p∧v4=.int .i64 p∧Ext w1 wr∧BRow wr g 200 f∧∀ m,m<200→(f m=true↔T.toTr.SntTo p 0 m))
 case atStart=>exact ⟨0,_,by omega,rfl,rfl,hx4,HR4.out,fun m _=>⟨fun h=>(by cases h),fun ⟨q,j,_,_,h,_⟩=>(by omega)⟩⟩
 case round=>
  obtain ⟨p,f,hp,rfl,rfl,hx1r,hR,hF⟩:=hrel
  have HR:=Lib.hid hR
  have HF:=Lib.hid hF
  have hxwr:=hx1.trans hx1r
  clear hR hF hx4 HR4
  by_cases hlt:p<T.n
  case neg=>
   obtain rfl:p=T.n:=by omega
   go_wp2_with fail
   go_ret
   exact ⟨hxwr,g,f,rfl,by have:=HG.out;have:=hx1.le;omega,HR.out,fun m hm=>(HF.out m hm).trans (snt_free rfl)⟩
  have hlt':(p:Int)<(T.n:Int):=by omega
  obtain rfl:ta=some ⟨T.b,T.off,none⟩:=HTA.out.trans (HT.out.P.pa (by omega))
  have pb:=HT.out.P.pb (by omega)
  have hen:T.en p≤64:=HV.out.en64 hlt
  obtain ⟨ep,hep⟩:∃ z,z=T.en p:=⟨_,rfl⟩
  have HEP:=Lib.hid hep
  obtain ⟨ea,hea⟩:∃ z,z=T.ea p:=⟨_,rfl⟩
  have HEA:=Lib.hid hea
  have p2:∀ w',Ext w w'→w'.cell? ⟨T.b,T.off+p*3+2,none⟩=some (.slice ea ep (T.ec p)):=fun w' h=>by rw [hep,hea];exact HT.out.P.p2 w' h p hlt
  rw [←hep] at hen
  have hx1rr:=hx1r
  clear hep hea hx1r
  go_wp2_with fail
  go_loopg [5] ep (fun gg v5 wk=>∃ (k:Nat) (f:Nat→Bool),k≤ep∧gg=ep - k∧v5=.int .i64 k∧Ext w1 wk∧BRow wk g 200 f∧∀ m,m<200→(f m=true↔T.toTr.SntTo p k m))
  case atStart=>exact ⟨0,_,by omega,rfl,rfl,hx1rr,HR.out,HF.out⟩
  case round=>
   clear hx1rr
   rename World=>wk
   obtain ⟨k,fk,hk,rfl,rfl,hx1k,hRk,hFk⟩:=hrel
   have HRk:=Lib.hid hRk
   have HFk:=Lib.hid hFk
   have hxwk:=hx1.trans hx1k
   clear hRk hFk
   by_cases hlk:k<ep
   case neg=>
    obtain rfl:k=ep:=by omega
    have HN:=Lib.hid (show ∀ m,m<200→(fk m=true↔T.toTr.SntTo (p+1) 0 m) from fun m hm=>by rw [HFk.out m hm,←snt_end,HEP.out])
    go_wp2_with fail
    go_roundg (T.n - (p+1))
    case rel=>exact ⟨p+1,_,by omega,rfl,by go_num,hx1k,HRk.out,HN.out⟩
    case measure=>omega
   have hlk':(k:Int)<(ep:Int):=by omega
   have hkT:k<T.en p:=by have:=HEP.out;omega
   obtain rfl:ea=some ⟨T.eb p,T.eo p,none⟩:=HEA.out.trans (HT.out.E.ea p hlt (by omega))
   have eb:=HT.out.E.eb p hlt (by omega)
   have e0:∀ w',Ext w w'→w'.cell? ⟨T.eb p,T.eo p+k*5,none⟩=some (.int .i64 (T.kind p k)):=fun w' x=>HT.out.E.e0 w' x p k hlt hkT
   by_cases hk2:T.kind p k=2
   case neg=>
    have g0:(T.kind p k == 2)=false:=by simpa using hk2
    have HN:=Lib.hid (show ∀ m,m<200→(fk m=true↔T.toTr.SntTo p (k+1) m) from fun m hm=>(HFk.out m hm).trans (snt_no hk2).symm)
    clear hk2
    go_wp2_with fail
    go_roundg (ep - (k+1))
    case rel=>exact ⟨k+1,_,by omega,rfl,by go_num,hx1k,HRk.out,HN.out⟩
    case measure=>omega
   have g0:(T.kind p k == 2)=true:=by simpa using hk2
   obtain ⟨m,hm,hm2⟩:∃ m:Nat,T.msg p k=(m:Int)∧m<200:=by
    have h:=HV.out.formed ⟨(p,k),hlt,hkT⟩
    have h':FormedP T.toTr p (T.kind p k) (T.peer p k) (T.msg p k):=h
    refine ⟨(T.msg p k).toNat,?_,msg_lt h'⟩
    unfold FormedP at h'
    omega
   have e2:∀ w',Ext w w'→w'.cell? ⟨T.eb p,T.eo p+k*5+2,none⟩=some (.int .i64 (m:Int)):=fun w' x=>by rw [←hm];exact HT.out.E.e2 w' x p k hlt hkT
   have HN:=Lib.hid (show ∀ m',m'<200→((if m'=m then true else fk m')=true↔T.toTr.SntTo p (k+1) m') from fun m' h'=>by
    rw [snt_yes hlt hkT hk2 hm]
    by_cases e:m'=m
    ·rw [if_pos e];exact ⟨fun _=>.inl e,fun _=>rfl⟩
    ·rw [if_neg e,HFk.out m' h'];exact ⟨.inr,fun h=>h.resolve_left e⟩)
   have hm3:(m:Int)<200:=by omega
   have s0:∀ w',Ext wk w'→w'.cell? ⟨g,m,none⟩=some (.bool (fk m)):=fun w' x=>x.cell (HRk.out.c m hm2)
   have sf:∀ w',Ext wk w'→∀ o,w'.frozen? ⟨g,o,none⟩=false:=fun w' x o=>(x.frozen (p:=⟨g,o,none⟩) HRk.out.lt).trans (HRk.out.fr o)
   have sl:∀ w',Ext wk w'→g<w'.heap.size:=fun w' x=>Nat.lt_of_lt_of_le HRk.out.lt x.le
   have hkk:Ext wk wk:=Ext.refl _
   have HB:=Lib.hid (HRk.out.set hm2 true)
   have hxs:=hx1k.setCell (p:=⟨g,m,none⟩) (by have:=HG.out;show w1.heap.size≤g;omega) (.bool true)
   clear hk2 hm
   go_upto_region 7 with fail
   clear s0 sf sl hkk e0 e2
   generalize wk.setCell ⟨g,m,none⟩ (.bool true)=w5 at HB hxs ⊢
   go_wp2_with fail
   go_roundg (ep - (k+1))
   case rel=>exact ⟨k+1,_,by omega,rfl,by go_num,hxs,HB.out,HN.out⟩
   case measure=>omega
end Go.Proofs.YtkhgpockmaghjaaGreat
