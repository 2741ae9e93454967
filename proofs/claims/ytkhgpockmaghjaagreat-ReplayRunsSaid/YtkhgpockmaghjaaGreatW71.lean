/- Contracts and laws in plain Lean for RApp: group W71. -/
import Derived.Test.YtkhgpockmaghjaaGreatW45
import Derived.Test.YtkhgpockmaghjaaGreatW69
import Derived.Test.YtkhgpockmaghjaaGreatW65
import Derived.Test.YtkhgpockmaghjaaGreatW36
set_option maxRecDepth 100000
namespace Go.Proofs.YtkhgpockmaghjaaGreat
def WarS (D:Nat→Nat→Prop):Nat→Nat→Nat→Prop
 | 0,i,j => D i j
 | k+1,i,j => WarS D k i j∨(WarS D k i k∧WarS D k k j)
inductive Way (D:Nat→Nat→Prop):Nat→Nat→Prop
 | one {i j:Nat}:D i j→Way D i j
 | cons {i j k:Nat}:D i j→Way D j k→Way D i k
theorem Way.trans {D:Nat→Nat→Prop} {i j k:Nat} (h:Way D i j) (h2:Way D j k):Way D i k:=by
 induction h with
 | one h => exact .cons h h2
 | cons h _ ih => exact .cons h (ih h2)
theorem WarS.way {D:Nat→Nat→Prop}:∀ {k i j:Nat},WarS D k i j→Way D i j
 | 0,_,_,h => .one h
 | _+1,_,_,h => by
  rcases h with h | ⟨h1,h2⟩
  ·exact h.way
  ·exact h1.way.trans h2.way
theorem WarS.up {D:Nat→Nat→Prop}:∀ {k i j:Nat},D i j→WarS D k i j
 | 0,_,_,h => h
 | _+1,_,_,h => .inl (WarS.up h)
theorem WarS.trans {D:Nat→Nat→Prop}:∀ {k i m j:Nat},m<k→WarS D k i m→WarS D k m j→WarS D k i j
 | 0,_,_,_,h,_,_ => absurd h (Nat.not_lt_zero _)
 | k+1,i,m,j,h,h1,h2 => by
  by_cases e:m=k
  ·subst e
   have a1:WarS D m i m:=by
    rcases h1 with h1 | h1
    ·exact h1
    ·exact h1.1
   have a2:WarS D m m j:=by
    rcases h2 with h2 | h2
    ·exact h2
    ·exact h2.2
   exact .inr ⟨a1,a2⟩
  ·have hm:m<k:=by omega
   rcases h1 with h1 | ⟨h1,h1'⟩
   ·rcases h2 with h2 | ⟨h2,h2'⟩
    ·exact .inl (WarS.trans hm h1 h2)
    ·exact .inr ⟨WarS.trans hm h1 h2,h2'⟩
   ·rcases h2 with h2 | ⟨h2,h2'⟩
    ·exact .inr ⟨h1,WarS.trans hm h1' h2⟩
    ·exact .inr ⟨h1,h2'⟩
theorem warS_iff {D:Nat→Nat→Prop} {n:Nat} (hD:∀ i j,D i j→j<n) {i j:Nat}:WarS D n i j↔Way D i j:=by
 refine ⟨WarS.way,fun h=>?_⟩
 induction h with
 | one h => exact WarS.up h
 | cons h _ ih => exact WarS.trans (hD _ _ h) (WarS.up h) ih
end Go.Proofs.YtkhgpockmaghjaaGreat

namespace Go.Proofs.YtkhgpockmaghjaaGreat
open Go.RowKit Go.Shelf
attribute [local go_sem] Oper.semAt_some
set_option maxHeartbeats 1000000 in
theorem ris_any (w : World) (T : TM) (hT : T.At w) (p i : Int) (b : Bool) (hb : b = true ↔ T.toTr.Ex p i) :
    Calls Tryz.prog 55 #[T.val,.agg #[.int .i64 p,.int .i64 i]] w fun e w'=>e=.returned (.bool b)∧Ext w w':=by
 have hn:=hT.P.hn
 have hen:=hT.E.he
 have HT:=Lib.hid hT
 clear hT
 by_cases h1:0≤p
 ·have d1:decide (0≤p)=true:=decide_eq_true h1
  by_cases h2:p<(T.n:Int)
  ·have d2:decide (p<(T.n:Int))=true:=decide_eq_true h2
   have pa:=HT.out.P.pa (by omega)
   have pb:=HT.out.P.pb (by omega)
   have p2:=HT.out.P.p2
   by_cases h3:1≤i
   ·have d3:decide (1≤i)=true:=decide_eq_true h3
    obtain ⟨k,rfl⟩:=Int.eq_ofNat_of_zero_le h1
    have hk:k<T.n:=by omega
    have hek:=hen k hk
    by_cases h4:i≤(T.en k:Int)
    ·have d4:decide (i≤(T.en k:Int))=true:=decide_eq_true h4
     obtain rfl:b=true:=hb.2 ⟨h1,h2,h3,by simpa using h4⟩
     clear hb
     go_enter Tryz.func55,Tryz.ntmps55
     go_upto_region 1 with fail
     refine boxed2 (w:=w) (G:=fun x=>Code.wp _ _ _ _ x) ?_
     intro w1 hx1 hs1 ⟨l0,c0,_,_⟩ ⟨l1,c1,_,_⟩
     have hx11:Ext w1 w1:=Ext.refl _
     clear hs1
     go_quiet (fail)
     go_wp2_with fail
     go_ret
     exact ⟨rfl,hx1.drewN _⟩
    ·have d4:decide (i≤(T.en k:Int))=false:=decide_eq_false h4
     obtain rfl:b=false:=Bool.eq_false_iff.2 fun h=>h4 (by simpa using (hb.1 h).2.2.2)
     clear hb
     go_enter Tryz.func55,Tryz.ntmps55
     go_upto_region 1 with fail
     refine boxed2 (w:=w) (G:=fun x=>Code.wp _ _ _ _ x) ?_
     intro w1 hx1 hs1 ⟨l0,c0,_,_⟩ ⟨l1,c1,_,_⟩
     have hx11:Ext w1 w1:=Ext.refl _
     clear hs1
     go_quiet (fail)
     go_wp2_with fail
     go_ret
     exact ⟨rfl,hx1.drewN _⟩
   ·have d3:decide (1≤i)=false:=decide_eq_false h3
    obtain rfl:b=false:=Bool.eq_false_iff.2 fun h=>h3 (hb.1 h).2.2.1
    clear hb
    go_enter Tryz.func55,Tryz.ntmps55
    go_upto_region 1 with fail
    refine boxed2 (w:=w) (G:=fun x=>Code.wp _ _ _ _ x) ?_
    intro w1 hx1 hs1 ⟨l0,c0,_,_⟩ ⟨l1,c1,_,_⟩
    have hx11:Ext w1 w1:=Ext.refl _
    clear hs1
    go_quiet (fail)
    go_wp2_with fail
    go_ret
    exact ⟨rfl,hx1.drewN _⟩
  ·have d2:decide (p<(T.n:Int))=false:=decide_eq_false h2
   obtain rfl:b=false:=Bool.eq_false_iff.2 fun h=>h2 (hb.1 h).2.1
   clear hb
   go_enter Tryz.func55,Tryz.ntmps55
   go_upto_region 1 with fail
   refine boxed2 (w:=w) (G:=fun x=>Code.wp _ _ _ _ x) ?_
   intro w1 hx1 hs1 ⟨l0,c0,_,_⟩ ⟨l1,c1,_,_⟩
   have hx11:Ext w1 w1:=Ext.refl _
   clear hs1
   go_quiet (fail)
   go_wp2_with fail
   go_ret
   exact ⟨rfl,hx1.drewN _⟩
 ·have d1:decide (0≤p)=false:=decide_eq_false h1
  obtain rfl:b=false:=Bool.eq_false_iff.2 fun h=>h1 (hb.1 h).1
  clear hb
  go_enter Tryz.func55,Tryz.ntmps55
  go_upto_region 1 with fail
  refine boxed2 (w:=w) (G:=fun x=>Code.wp _ _ _ _ x) ?_
  intro w1 hx1 hs1 ⟨l0,c0,_,_⟩ ⟨l1,c1,_,_⟩
  have hx11:Ext w1 w1:=Ext.refl _
  clear hs1
  go_quiet (fail)
  go_wp2_with fail
  go_ret
  exact ⟨rfl,hx1.drewN _⟩
set_option maxHeartbeats 2000000 in
theorem rhas_any (w : World) (D : SyD) (hD : D.At w) (v : Syn) :
    Calls Tryz.prog 58 #[.slice D.s.a D.s.n D.s.c,.agg #[.int .i64 v.1.1,.int .i64 v.1.2,.int .i64 v.2.1,.int .i64 v.2.2]] w (BoolPost (v∈D.l) w):=by
 obtain ⟨⟨v0,v1⟩,⟨v2,v3⟩⟩:=v
 dsimp only
 have hn:=hD.hn
 have HD:=Lib.hid hD
 obtain ⟨da,hda⟩:∃ z,z=D.s.a:=⟨_,rfl⟩
 have HDA:=Lib.hid hda
 rw [←hda]
 clear hD hda
 go_enter Tryz.func58,Tryz.ntmps58
 go_upto_region 1 with fail
 refine boxed1 (w:=w) (G:=fun x=>Code.wp _ _ _ _ x) ?_
 intro w1 hx1 hs1 ⟨lb,cb,_,_⟩
 have hx11:Ext w1 w1:=Ext.refl _
 clear hs1
 go_wp2_with fail
 go_loopg [5] D.s.n (fun gg v5 wr=>∃ k:Nat,k≤D.s.n∧gg=D.s.n - k∧v5=.int .i64 k∧Ext w1 wr∧∀ i,i<k→D.at i≠((v0,v1),(v2,v3)))
 case atStart=>exact ⟨0,by omega,rfl,rfl,hx11,fun i h=>absurd h (Nat.not_lt_zero _)⟩
 case round=>
  obtain ⟨k,hk,rfl,rfl,hxr,hN⟩:=hrel
  have HN:=Lib.hid hN
  have hxw:=hx1.trans hxr
  clear hN
  by_cases hlt:k<D.s.n
  case neg=>
   obtain rfl:k=D.s.n:=by omega
   have HA:=Lib.hid (show ((v0,v1),(v2,v3))∉D.l from fun h=>by
    obtain ⟨i,hi,e⟩:=SyD.mem.1 h
    exact HN.out i hi e.symm)
   go_wp2_with fail
   go_ret
   exact ⟨false,rfl,⟨fun h=>(by cases h),fun h=>absurd h HA.out⟩,hxw⟩
  have hlt':(k:Int)<(D.s.n:Int):=by omega
  obtain rfl:da=_:=HDA.out.trans (HD.out.ha (by omega))
  have pb:∀ w',Ext w w'→D.s.b<w'.heap.size:=fun w' y=>Nat.lt_of_lt_of_le (HD.out.hb (by omega)) y.le
  have hg0:∀ d os,Ext w (Sort.grow (redrawn wr d) os):=fun d os=>hxw.trans (below_regrown wr d os)
  have hg1:∀ d os,Ext w1 (Sort.grow (redrawn wr d) os):=fun d os=>hxr.trans (below_regrown wr d os)
  obtain ⟨x0,hx0⟩:∃ z,z=(D.x k).1:=⟨_,rfl⟩
  obtain ⟨x1,hx1'⟩:∃ z,z=(D.x k).2:=⟨_,rfl⟩
  obtain ⟨x2,hx2'⟩:∃ z,z=(D.y k).1:=⟨_,rfl⟩
  obtain ⟨x3,hx3'⟩:∃ z,z=(D.y k).2:=⟨_,rfl⟩
  have p0:∀ w',Ext w w'→w'.cell? ⟨D.s.b,D.s.o+k*4,none⟩=some (.int .i64 x0):=fun w' y=>by rw [hx0];exact y.cell (HD.out.c0 k hlt)
  have p1:∀ w',Ext w w'→w'.cell? ⟨D.s.b,D.s.o+k*4+1,none⟩=some (.int .i64 x1):=fun w' y=>by rw [hx1'];exact y.cell (HD.out.c1 k hlt)
  have p2:∀ w',Ext w w'→w'.cell? ⟨D.s.b,D.s.o+k*4+2,none⟩=some (.int .i64 x2):=fun w' y=>by rw [hx2'];exact y.cell (HD.out.c2 k hlt)
  have p3:∀ w',Ext w w'→w'.cell? ⟨D.s.b,D.s.o+k*4+3,none⟩=some (.int .i64 x3):=fun w' y=>by rw [hx3'];exact y.cell (HD.out.c3 k hlt)
  have HX:=Lib.hid (show D.at k=((x0,x1),(x2,x3)) from by rw [hx0,hx1',hx2',hx3'];rfl)
  clear hx0 hx1' hx2' hx3'
  by_cases e0:x0=v0
  case neg=>
   have d0:(x0 == v0)=false:=by simpa using e0
   have HNN:=Lib.hid (show D.at k≠((v0,v1),(v2,v3)) from fun h=>e0 (by rw [HX.out] at h;simp at h;omega))
   go_upto_region 4 with fail
   refine wp_region_quiet_below (by kernel_rfl) (by kernel_rfl) ?_
   repeat (go_big_quiet_step (fail))
   refine wpQuiet_nil ?_
   intro _ hw'
   obtain ⟨⟨dq,osq⟩,hw''⟩:=hw'
   subst hw''
   have hx2:=hg1 dq osq
   have hxw2:=hg0 dq osq
   clear hg0 hg1
   generalize Sort.grow (redrawn wr dq) osq=w2 at hx2 hxw2 ⊢
   go_wp2_with fail
   go_roundg (D.s.n - (k+1))
   case rel=>exact ⟨k+1,by omega,rfl,by go_num,hx2,fun i hi=>by
    by_cases e:i=k
    ·subst e;exact HNN.out
    ·exact HN.out i (by omega)⟩
   case measure=>omega
  subst e0
  by_cases e1:x1=v1
  case neg=>
   have d1:(x1 == v1)=false:=by simpa using e1
   have HNN:=Lib.hid (show D.at k≠((x0,v1),(v2,v3)) from fun h=>e1 (by rw [HX.out] at h;simp at h;omega))
   go_upto_region 4 with fail
   refine wp_region_quiet_below (by kernel_rfl) (by kernel_rfl) ?_
   repeat (go_big_quiet_step (fail))
   refine wpQuiet_nil ?_
   intro _ hw'
   obtain ⟨⟨dq,osq⟩,hw''⟩:=hw'
   subst hw''
   have hx2:=hg1 dq osq
   have hxw2:=hg0 dq osq
   clear hg0 hg1
   generalize Sort.grow (redrawn wr dq) osq=w2 at hx2 hxw2 ⊢
   go_wp2_with fail
   go_roundg (D.s.n - (k+1))
   case rel=>exact ⟨k+1,by omega,rfl,by go_num,hx2,fun i hi=>by
    by_cases e:i=k
    ·subst e;exact HNN.out
    ·exact HN.out i (by omega)⟩
   case measure=>omega
  subst e1
  by_cases e2:x2=v2
  case neg=>
   have d2:(x2 == v2)=false:=by simpa using e2
   have HNN:=Lib.hid (show D.at k≠((x0,x1),(v2,v3)) from fun h=>e2 (by rw [HX.out] at h;simp at h;omega))
   go_upto_region 4 with fail
   refine wp_region_quiet_below (by kernel_rfl) (by kernel_rfl) ?_
   repeat (go_big_quiet_step (fail))
   refine wpQuiet_nil ?_
   intro _ hw'
   obtain ⟨⟨dq,osq⟩,hw''⟩:=hw'
   subst hw''
   have hx2:=hg1 dq osq
   have hxw2:=hg0 dq osq
   clear hg0 hg1
   generalize Sort.grow (redrawn wr dq) osq=w2 at hx2 hxw2 ⊢
   go_wp2_with fail
   go_roundg (D.s.n - (k+1))
   case rel=>exact ⟨k+1,by omega,rfl,by go_num,hx2,fun i hi=>by
    by_cases e:i=k
    ·subst e;exact HNN.out
    ·exact HN.out i (by omega)⟩
   case measure=>omega
  subst e2
  by_cases e3:x3=v3
  case neg=>
   have d3:(x3 == v3)=false:=by simpa using e3
   have HNN:=Lib.hid (show D.at k≠((x0,x1),(x2,v3)) from fun h=>e3 (by rw [HX.out] at h;simp at h;omega))
   go_upto_region 4 with fail
   refine wp_region_quiet_below (by kernel_rfl) (by kernel_rfl) ?_
   repeat (go_big_quiet_step (fail))
   refine wpQuiet_nil ?_
   intro _ hw'
   obtain ⟨⟨dq,osq⟩,hw''⟩:=hw'
   subst hw''
   have hx2:=hg1 dq osq
   have hxw2:=hg0 dq osq
   clear hg0 hg1
   generalize Sort.grow (redrawn wr dq) osq=w2 at hx2 hxw2 ⊢
   go_wp2_with fail
   go_roundg (D.s.n - (k+1))
   case rel=>exact ⟨k+1,by omega,rfl,by go_num,hx2,fun i hi=>by
    by_cases e:i=k
    ·subst e;exact HNN.out
    ·exact HN.out i (by omega)⟩
   case measure=>omega
  subst e3
  have HY:=Lib.hid (show ((x0,x1),(x2,x3))∈D.l from SyD.mem.2 ⟨k,hlt,HX.out.symm⟩)
  go_upto_region 4 with fail
  refine wp_region_quiet_below (by kernel_rfl) (by kernel_rfl) ?_
  repeat (go_big_quiet_step (fail))
  refine wpQuiet_nil ?_
  intro _ hw'
  obtain ⟨⟨dq,osq⟩,hw''⟩:=hw'
  subst hw''
  have hx2:=hg1 dq osq
  have hxw2:=hg0 dq osq
  clear hg0 hg1
  generalize Sort.grow (redrawn wr dq) osq=w2 at hx2 hxw2 ⊢
  go_wp2_with fail
  go_ret
  exact ⟨true,rfl,⟨fun _=>HY.out,fun _=>rfl⟩,hxw2⟩
def DirP (T:Tr) (x y:NN):Prop:=if x.1=y.1 then y.2=x.2+1 else T.kind x.1 x.2=2∧T.kind y.1 y.2=3∧T.msg x.1 x.2=T.msg y.1 y.2
theorem dirP_fw {T:Tr} (h:T.Valid) {x y:NN} (hx:T.V x) (hy:T.V y):DirP T x y↔y∈T.fw x:=by
 have hfx:FormedP T x.1 (T.kind x.1 x.2) (T.peer x.1 x.2) (T.msg x.1 x.2):=h.formed ⟨x,hx⟩
 have hfy:FormedP T y.1 (T.kind y.1 y.2) (T.peer y.1 y.2) (T.msg y.1 y.2):=h.formed ⟨y,hy⟩
 have hself:T.kind y.1 y.2=3→x=T.sndN y→x.1≠y.1:=fun k3 e he=>by
  have h1:=T.sndN_eq ⟨y,hy⟩
  simp only at h1
  have h2:(T.snd ⟨y,hy⟩).1.1=(T.peer y.1 y.2).toNat:=by
   obtain ⟨a,b,e'⟩:=List.append_of_mem (evs_all (⟨y,hy⟩:T.Id))
   have hs:=((h.msg a ⟨y,hy⟩ ⟨b,by rw [e'];simp⟩).2 k3).2
   obtain ⟨i,hi,hp⟩:=anyB_iff.1 hs
   simp only [Bool.and_eq_true,decide_eq_true_eq] at hp
   have hpeer:(T.peer y.1 y.2).toNat<T.n:=by rcases hfy with h | h <;> omega
   have hse:=h.snd_eq (x:=⟨y,hy⟩) (y:=⟨((T.peer y.1 y.2).toNat,i),hpeer,hi⟩) ⟨k3,hp.1.1,hp.1.2⟩
   rw [hse]
  rw [←h1,←e] at h2
  rcases hfy with hf | hf <;> omega
 unfold DirP
 constructor
 ·intro hd
  refine h.dir_succ hy ?_
  split at hd
  ·next e=>exact .inl ⟨e.symm,hd⟩
  ·obtain ⟨k2,k3,hm⟩:=hd
   right
   obtain ⟨s2,sm⟩:=h.sndN hy k3
   have:=h.uniq2 (x:=⟨x,hx⟩) (y:=⟨T.sndN y,Tr.sndN_V hy⟩) k2 s2 (hm.trans sm.symm)
   exact ⟨k3,congrArg Subtype.val this⟩
 ·intro hd
  rcases fw_dir h hx hd with ⟨e1,e2⟩ | ⟨k3,e⟩
  ·rw [if_pos e1.symm];exact e2
  ·rw [if_neg (hself k3 e)]
   obtain ⟨s2,sm⟩:=h.sndN hy k3
   rw [←e] at s2 sm
   exact ⟨s2,k3,sm⟩
set_option maxHeartbeats 4000000 in
theorem rdirect13_any (w : World) (T : TM) (hT : T.At w) (xp xi yp yi : Nat) (hx : T.toTr.V (xp, xi)) (hy : T.toTr.V (yp, yi)) :
    Calls Tryz.prog 59 #[T.val,.agg #[.int .i64 (xp:Nat),.int .i64 ((xi:Nat)+1)],.agg #[.int .i64 (yp:Nat),.int .i64 ((yi:Nat)+1)]] w (BoolPost (DirP T.toTr (xp,xi) (yp,yi)) w):=by
 have hn:=hT.P.hn
 have hex:=hT.E.he xp hx.1
 have hey:=hT.E.he yp hy.1
 have hxi:xi<T.en xp:=hx.2
 have hyi:yi<T.en yp:=hy.2
 have hxp:xp<T.n:=hx.1
 have hyp:yp<T.n:=hy.1
 have HT:=Lib.hid hT
 obtain ⟨ta,hta⟩:∃ z,z=T.a:=⟨_,rfl⟩
 obtain rfl:ta=some ⟨T.b,T.off,none⟩:=by rw [hta];exact hT.P.pa (by omega)
 simp only [TM.val,←hta]
 have HP:=Lib.hid (show DirP T.toTr (xp,xi) (yp,yi)↔if xp=yp then yi=xi+1 else T.kind xp xi=2∧T.kind yp yi=3∧T.msg xp xi=T.msg yp yi from Iff.rfl)
 have hwx:IntKind.i64.wrap (xi:Int)=(xi:Int):=IntWalk.i64_in _ (by omega)
 have hwy:IntKind.i64.wrap (yi:Int)=(yi:Int):=IntWalk.i64_in _ (by omega)
 have hwx1:IntKind.i64.wrap ((xi:Int)+1)=(xi:Int)+1:=IntWalk.i64_in _ (by omega)
 have hwx2:IntKind.i64.wrap ((xi:Int)+1+1)=(xi:Int)+1+1:=IntWalk.i64_in _ (by omega)
 clear hT hx hy hta
 go_enter Tryz.func59,Tryz.ntmps59
 go_upto_region 1 with fail
 refine boxed3 (w:=w) (G:=fun x=>Code.wp _ _ _ _ x) ?_
 intro w1 hx1 hs1 ⟨l0,c0,_,_⟩ ⟨l1,c1,_,_⟩ ⟨l2,c2,_,_⟩
 have hx11:Ext w1 w1:=Ext.refl _
 clear hs1
 by_cases e0:xp=yp
 ·subst e0
  have d0:((xp:Int) == (xp:Int))=true:=by simp
  have HPP:=Lib.hid (show DirP T.toTr (xp,xi) (xp,yi)↔yi=xi+1 from by rw [HP.out,if_pos rfl])
  by_cases e1:yi=xi+1
  ·subst e1
   have d1:(((xi+1:Nat):Int)+1 == (xi:Int)+1+1)=true:=by simp
   have HYY:=Lib.hid (HPP.out.2 rfl)
   go_wp2_with fail
   go_ret
   exact ⟨true,ret_bool (by first | rfl | simp),⟨fun _=>HYY.out,fun _=>rfl⟩,hx1⟩
  ·have d1:((yi:Int)+1 == (xi:Int)+1+1)=false:=by simpa using fun h:(yi:Int)=xi+1=>e1 (by omega)
   have HE1:=Lib.hid e1
   clear e1
   go_wp2_with fail
   go_ret
   exact ⟨false,ret_bool (by first | rfl | (simp;have:=HE1.out;omega)),⟨fun h=>(by cases h),fun h=>absurd (HPP.out.1 h) HE1.out⟩,hx1⟩
 have d0:((xp:Int) == (yp:Int))=false:=by simpa using fun h:(xp:Int)=yp=>e0 (by omega)
 have HPN:=Lib.hid (show DirP T.toTr (xp,xi) (yp,yi)↔T.kind xp xi=2∧T.kind yp yi=3∧T.msg xp xi=T.msg yp yi from by rw [HP.out,if_neg e0])
 have hpx:(xp:Int)<(T.n:Int):=by omega
 have hpy:(yp:Int)<(T.n:Int):=by omega
 have hix:(xi:Int)<(T.en xp:Int):=by omega
 have hiy:(yi:Int)<(T.en yp:Int):=by omega
 have pb:=HT.out.P.pb (by omega)
 have p2:=HT.out.P.p2
 have eax:=HT.out.E.ea xp hxp (by omega)
 have ebx:=HT.out.E.eb xp hxp (by omega)
 have eay:=HT.out.E.ea yp hyp (by omega)
 have eby:=HT.out.E.eb yp hyp (by omega)
 have q0:=HT.out.E.e0
 have q1:=HT.out.E.e1
 have q2:=HT.out.E.e2
 have q3:=HT.out.E.e3
 have q4:=HT.out.E.e4
 clear d0
 go_wp2_with fail
 go_cut [7,8] (fun s6 s7 wx=>∃ b6 b7,s6=.pointer (some ⟨b6,0,none⟩)∧s7=.pointer (some ⟨b7,0,none⟩)∧Hold wx b6 #[.int .i64 (T.kind xp xi),.int .i64 (T.peer xp xi),.int .i64 (T.msg xp xi),.int .i64 (T.time xp xi),.slice (T.aa xp xi) (T.an xp xi) (T.ac xp xi)]∧Hold wx b7 #[.int .i64 (T.kind yp yi),.int .i64 (T.peer yp yi),.int .i64 (T.msg yp yi),.int .i64 (T.time yp yi),.slice (T.aa yp yi) (T.an yp yi) (T.ac yp yi)]∧Ext w1 wx)
 case first=>
  refine wp_region_held_drew (S:=fun w'=>Ext w1 w') (by kernel_rfl) (Ext.refl _).drew (fun hHeld=>?_)
  refine hQ 0 (v:=?_) rfl (y:=.inl ⟨by rfl,?_⟩) (h:=?_)
  rotate_left
  ·(intro w' hSw;(try dsimp only at hSw);have hSS:=Ext.refl w';have hS0:=hx1.trans hSw;go_simp;try with_reducible rfl)
  try simp only [Act.put,zA,zB,zC]
  refine hQ 1 (v:=?_) rfl (y:=.inl ⟨by rfl,?_⟩) (h:=?_)
  rotate_left
  ·(intro w' hSw;(try dsimp only at hSw);have hSS:=Ext.refl w';have hS0:=hx1.trans hSw;go_simp;try with_reducible rfl)
  try simp only [Act.put,zA,zB,zC]
  refine hQ 2 (v:=?_) rfl (y:=.inl ⟨by rfl,?_⟩) (h:=?_)
  rotate_left
  ·(intro w' hSw;(try dsimp only at hSw);have hSS:=Ext.refl w';have hS0:=hx1.trans hSw;go_simp;try with_reducible rfl)
  try simp only [Act.put,zA,zB,zC]
  refine hQ 3 (v:=?_) rfl (y:=.inl ⟨by rfl,?_⟩) (h:=?_)
  rotate_left
  ·(intro w' hSw;(try dsimp only at hSw);have hSS:=Ext.refl w';have hS0:=hx1.trans hSw;go_simp;try with_reducible rfl)
  try simp only [Act.put,zA,zB,zC]
  refine hQ 4 (v:=?_) rfl (y:=.inl ⟨by rfl,?_⟩) (h:=?_)
  rotate_left
  ·(intro w' hSw;(try dsimp only at hSw);have hSS:=Ext.refl w';have hS0:=hx1.trans hSw;go_simp;try with_reducible rfl)
  try simp only [Act.put,zA,zB,zC]
  refine hQ 5 (v:=?_) rfl (y:=.inl ⟨by rfl,?_⟩) (h:=?_)
  rotate_left
  ·(intro w' hSw;(try dsimp only at hSw);have hSS:=Ext.refl w';have hS0:=hx1.trans hSw;go_simp;try with_reducible rfl)
  try simp only [Act.put,zA,zB,zC]
  refine hQ 6 (v:=?_) rfl (y:=.inl ⟨by rfl,?_⟩) (h:=?_)
  rotate_left
  ·(intro w' hSw;(try dsimp only at hSw);have hSS:=Ext.refl w';have hS0:=hx1.trans hSw;go_simp;try with_reducible rfl)
  try simp only [Act.put,zA,zB,zC]
  refine hQ 7 (v:=?_) rfl (y:=.inl ⟨by rfl,?_⟩) (h:=?_)
  rotate_left
  ·(intro w' hSw;(try dsimp only at hSw);have hSS:=Ext.refl w';have hS0:=hx1.trans hSw;go_simp;try with_reducible rfl)
  try simp only [Act.put,zA,zB,zC]
  refine hQ 8 (v:=?_) rfl (y:=.inl ⟨by rfl,?_⟩) (h:=?_)
  rotate_left
  ·(intro w' hSw;(try dsimp only at hSw);have hSS:=Ext.refl w';have hS0:=hx1.trans hSw;go_simp;try with_reducible rfl)
  try simp only [Act.put,zA,zB,zC]
  refine hQ 9 (v:=?_) rfl (y:=.inl ⟨by rfl,?_⟩) (h:=?_)
  rotate_left
  ·(intro w' hSw;(try dsimp only at hSw);have hSS:=Ext.refl w';have hS0:=hx1.trans hSw;go_simp;try with_reducible rfl)
  try simp only [Act.put,zA,zB,zC]
  refine hQ 10 (v:=?_) rfl (y:=.inl ⟨by rfl,?_⟩) (h:=?_)
  rotate_left
  ·(intro w' hSw;(try dsimp only at hSw);have hSS:=Ext.refl w';have hS0:=hx1.trans hSw;go_simp;try with_reducible rfl)
  try simp only [Act.put,zA,zB,zC]
  refine hQ 11 (v:=?_) rfl (y:=.inl ⟨by rfl,?_⟩) (h:=?_)
  rotate_left
  ·(intro w' hSw;(try dsimp only at hSw);have hSS:=Ext.refl w';have hS0:=hx1.trans hSw;go_simp;try with_reducible rfl)
  try simp only [Act.put,zA,zB,zC]
  refine hQ 12 (v:=?_) rfl (y:=.inl ⟨by rfl,?_⟩) (h:=?_)
  rotate_left
  ·(intro w' hSw;(try dsimp only at hSw);have hSS:=Ext.refl w';have hS0:=hx1.trans hSw;go_simp;try with_reducible rfl)
  try simp only [Act.put,zA,zB,zC]
  refine hQ 13 (v:=?_) rfl (y:=.inl ⟨by rfl,?_⟩) (h:=?_)
  rotate_left
  ·(intro w' hSw;(try dsimp only at hSw);have hSS:=Ext.refl w';have hS0:=hx1.trans hSw;go_simp;try with_reducible rfl)
  try simp only [Act.put,zA,zB,zC]
  refine hQ 14 (v:=?_) rfl (y:=.inl ⟨by rfl,?_⟩) (h:=?_)
  rotate_left
  ·(intro w' hSw;(try dsimp only at hSw);have hSS:=Ext.refl w';have hS0:=hx1.trans hSw;go_simp;try with_reducible rfl)
  try simp only [Act.put,zA,zB,zC]
  refine hQ 15 (v:=?_) rfl (y:=.inl ⟨by rfl,?_⟩) (h:=?_)
  rotate_left
  ·(intro w' hSw;(try dsimp only at hSw);have hSS:=Ext.refl w';have hS0:=hx1.trans hSw;go_simp;try with_reducible rfl)
  try simp only [Act.put,zA,zB,zC]
  refine hQ 16 (v:=?_) rfl (y:=.inl ⟨by rfl,?_⟩) (h:=?_)
  rotate_left
  ·(intro w' hSw;(try dsimp only at hSw);have hSS:=Ext.refl w';have hS0:=hx1.trans hSw;go_simp;try with_reducible rfl)
  try simp only [Act.put,zA,zB,zC]
  refine hQ 17 (v:=?_) rfl (y:=.inl ⟨by rfl,?_⟩) (h:=?_)
  rotate_left
  ·(intro w' hSw;(try dsimp only at hSw);have hSS:=Ext.refl w';have hS0:=hx1.trans hSw;go_simp;try with_reducible rfl)
  try simp only [Act.put,zA,zB,zC]
  refine hQ 18 (v:=?_) rfl (y:=.inl ⟨by rfl,?_⟩) (h:=?_)
  rotate_left
  ·(intro w' hSw;(try dsimp only at hSw);have hSS:=Ext.refl w';have hS0:=hx1.trans hSw;go_simp;try with_reducible rfl)
  try simp only [Act.put,zA,zB,zC]
  refine hQ 19 (v:=?_) rfl (y:=.inl ⟨by rfl,?_⟩) (h:=?_)
  rotate_left
  ·(intro w' hSw;(try dsimp only at hSw);have hSS:=Ext.refl w';have hS0:=hx1.trans hSw;go_simp;try with_reducible rfl)
  try simp only [Act.put,zA,zB,zC]
  refine hQ 20 (v:=?_) rfl (y:=.inl ⟨by rfl,?_⟩) (h:=?_)
  rotate_left
  ·(intro w' hSw;(try dsimp only at hSw);have hSS:=Ext.refl w';have hS0:=hx1.trans hSw;go_simp;try with_reducible rfl)
  try simp only [Act.put,zA,zB,zC]
  refine hQ 21 (v:=?_) rfl (y:=.inl ⟨by rfl,?_⟩) (h:=?_)
  rotate_left
  ·(intro w' hSw;(try dsimp only at hSw);have hSS:=Ext.refl w';have hS0:=hx1.trans hSw;go_simp;try with_reducible rfl)
  try simp only [Act.put,zA,zB,zC]
  refine hQ 22 (v:=?_) rfl (y:=.inl ⟨by rfl,?_⟩) (h:=?_)
  rotate_left
  ·(intro w' hSw;(try dsimp only at hSw);have hSS:=Ext.refl w';have hS0:=hx1.trans hSw;go_simp;try with_reducible rfl)
  try simp only [Act.put,zA,zB,zC]
  refine hQ 23 (v:=?_) rfl (y:=.inl ⟨by rfl,?_⟩) (h:=?_)
  rotate_left
  ·(intro w' hSw;(try dsimp only at hSw);have hSS:=Ext.refl w';have hS0:=hx1.trans hSw;go_simp;try with_reducible rfl)
  try simp only [Act.put,zA,zB,zC]
  have hA0:Ext w1 w1.drew:=(Ext.refl w1).drew
  refine wpAnyH_ready (rs:=[24,25]) (by kernel_rfl) (by simp) ?_
  refine AllReadyH.cons rfl (fun K hK=>?_) (AllReadyH.cons rfl (fun K hK=>?_) AllReadyH.nil)
  ·skip
   go_simp
   refine hK.out _ _ (hA0.alloc' _) (fun hHeld2=>?_)
   clear hK K
   try simp only [Act.put]
   refine wpAnyH_ready (rs:=[25]) (by kernel_rfl) (by simp) ?_
   refine AllReadyH.cons rfl (fun K hK=>?_) AllReadyH.nil
   go_simp
   refine hK.out _ _ ((hA0.alloc' _).alloc' _) (fun hHeld3=>?_)
   clear hK K
   try simp only [Act.put]
   have hNW:=Hold.new (w1.alloc (.cells #[.int .i64 0,.int .i64 0,.int .i64 0,.int .i64 0,.slice none 0 0] 65)) #[.int .i64 0,.int .i64 0,.int .i64 0,.int .i64 0,.slice none 0 0] 65
   have k6:Hold ((w1.alloc (.cells #[.int .i64 0,.int .i64 0,.int .i64 0,.int .i64 0,.slice none 0 0] 65)).alloc (.cells #[.int .i64 0,.int .i64 0,.int .i64 0,.int .i64 0,.slice none 0 0] 65)).drew w1.heap.size #[.int .i64 0,.int .i64 0,.int .i64 0,.int .i64 0,.slice none 0 0]:=by simpa using ((Hold.new w1 _ _).ext (Ext.alloc _ _)).drew
   have k7:Hold ((w1.alloc (.cells #[.int .i64 0,.int .i64 0,.int .i64 0,.int .i64 0,.slice none 0 0] 65)).alloc (.cells #[.int .i64 0,.int .i64 0,.int .i64 0,.int .i64 0,.slice none 0 0] 65)).drew (w1.heap.size+1) #[.int .i64 0,.int .i64 0,.int .i64 0,.int .i64 0,.slice none 0 0]:=by simpa using hNW.drew
   have hxW:=(((Ext.refl w1).alloc' (.cells #[.int .i64 0,.int .i64 0,.int .i64 0,.int .i64 0,.slice none 0 0] 65)).alloc' (.cells #[.int .i64 0,.int .i64 0,.int .i64 0,.int .i64 0,.slice none 0 0] 65)).drew
   have h67:w1.heap.size≠(w1.heap.size+1):=by omega
   try simp only [World.size_alloc,World.size_drew]
   clear hNW hHeld hHeld2 hHeld3
   generalize ((w1.alloc (.cells #[.int .i64 0,.int .i64 0,.int .i64 0,.int .i64 0,.slice none 0 0] 65)).alloc (.cells #[.int .i64 0,.int .i64 0,.int .i64 0,.int .i64 0,.slice none 0 0] 65)).drew=W at k6 k7 hxW ⊢
   generalize hb1:w1.heap.size+1=b7 at k7 h67 ⊢
   generalize hb0:w1.heap.size=b6 at k6 h67 ⊢
   obtain ⟨l6,c6,f6,_⟩:=k6.box
   have hWW:Ext W W:=Ext.refl _
   have hA6:w1.heap.size≤b6:=by omega
   have hB7:w1.heap.size≤b7:=by omega
   clear hb0 hb1
   have m6:=((((Hold.set k6 0 (.int .i64 (T.kind xp xi))).set 1 (.int .i64 (T.peer xp xi))).set 2 (.int .i64 (T.msg xp xi))).set 3 (.int .i64 (T.time xp xi))).set 4 (.slice (T.aa xp xi) (T.an xp xi) (T.ac xp xi))
   have m7:=((((Hold.other k7 ⟨b6,0,none⟩ (.int .i64 (T.kind xp xi)) (fun e=>h67 e.symm)).other ⟨b6,1,none⟩ (.int .i64 (T.peer xp xi)) (fun e=>h67 e.symm)).other ⟨b6,2,none⟩ (.int .i64 (T.msg xp xi)) (fun e=>h67 e.symm)).other ⟨b6,3,none⟩ (.int .i64 (T.time xp xi)) (fun e=>h67 e.symm)).other ⟨b6,4,none⟩ (.slice (T.aa xp xi) (T.an xp xi) (T.ac xp xi)) (fun e=>h67 e.symm)
   have hxW2:=((((hxW.setCell (p:=⟨b6,0,none⟩) hA6 (.int .i64 (T.kind xp xi))).setCell (p:=⟨b6,1,none⟩) hA6 (.int .i64 (T.peer xp xi))).setCell (p:=⟨b6,2,none⟩) hA6 (.int .i64 (T.msg xp xi))).setCell (p:=⟨b6,3,none⟩) hA6 (.int .i64 (T.time xp xi))).setCell (p:=⟨b6,4,none⟩) hA6 (.slice (T.aa xp xi) (T.an xp xi) (T.ac xp xi))
   refine wpAnyH_ready (rs:=[26]) (by kernel_rfl) (by simp) ?_
   refine AllReadyH.cons rfl (fun K hK=>?_) AllReadyH.nil
   go_simp
   refine hK.out _ _ hxW2 (fun hHeld4=>?_)
   clear hK K
   try simp only [Act.put]
   clear l6 c6 f6 hWW k6 k7 hxW hHeld4
   generalize ((((W.setCell ⟨b6,0,none⟩ (.int .i64 (T.kind xp xi))).setCell ⟨b6,1,none⟩ (.int .i64 (T.peer xp xi))).setCell ⟨b6,2,none⟩ (.int .i64 (T.msg xp xi))).setCell ⟨b6,3,none⟩ (.int .i64 (T.time xp xi))).setCell ⟨b6,4,none⟩ (.slice (T.aa xp xi) (T.an xp xi) (T.ac xp xi))=W2 at m6 m7 hxW2 ⊢
   obtain ⟨l7,c7,f7,_⟩:=m7.box
   have hWW:Ext W2 W2:=Ext.refl _
   have n7:=((((Hold.set m7 0 (.int .i64 (T.kind yp yi))).set 1 (.int .i64 (T.peer yp yi))).set 2 (.int .i64 (T.msg yp yi))).set 3 (.int .i64 (T.time yp yi))).set 4 (.slice (T.aa yp yi) (T.an yp yi) (T.ac yp yi))
   have n6:=((((Hold.other m6 ⟨b7,0,none⟩ (.int .i64 (T.kind yp yi)) h67).other ⟨b7,1,none⟩ (.int .i64 (T.peer yp yi)) h67).other ⟨b7,2,none⟩ (.int .i64 (T.msg yp yi)) h67).other ⟨b7,3,none⟩ (.int .i64 (T.time yp yi)) h67).other ⟨b7,4,none⟩ (.slice (T.aa yp yi) (T.an yp yi) (T.ac yp yi)) h67
   have hxW3:=((((hxW2.setCell (p:=⟨b7,0,none⟩) hB7 (.int .i64 (T.kind yp yi))).setCell (p:=⟨b7,1,none⟩) hB7 (.int .i64 (T.peer yp yi))).setCell (p:=⟨b7,2,none⟩) hB7 (.int .i64 (T.msg yp yi))).setCell (p:=⟨b7,3,none⟩) hB7 (.int .i64 (T.time yp yi))).setCell (p:=⟨b7,4,none⟩) hB7 (.slice (T.aa yp yi) (T.an yp yi) (T.ac yp yi))
   refine wpAnyH_ready (rs:=[27]) (by kernel_rfl) (by simp) ?_
   refine AllReadyH.cons rfl (fun K hK=>?_) AllReadyH.nil
   go_simp
   refine hK.out _ _ hxW3 (fun hHeld5=>?_)
   clear hK K
   try simp only [Act.put]
   refine wpAnyH_done (by kernel_rfl) ?_ _
   go_wp2_with fail
   go_meet
   exact ⟨b6,b7,rfl,rfl,n6,n7,hxW3⟩
  ·skip
   go_simp
   refine hK.out _ _ (hA0.alloc' _) (fun hHeld2=>?_)
   clear hK K
   try simp only [Act.put]
   refine wpAnyH_ready (rs:=[24]) (by kernel_rfl) (by simp) ?_
   refine AllReadyH.cons rfl (fun K hK=>?_) AllReadyH.nil
   go_simp
   refine hK.out _ _ ((hA0.alloc' _).alloc' _) (fun hHeld3=>?_)
   clear hK K
   try simp only [Act.put]
   have hNW:=Hold.new (w1.alloc (.cells #[.int .i64 0,.int .i64 0,.int .i64 0,.int .i64 0,.slice none 0 0] 65)) #[.int .i64 0,.int .i64 0,.int .i64 0,.int .i64 0,.slice none 0 0] 65
   have k6:Hold ((w1.alloc (.cells #[.int .i64 0,.int .i64 0,.int .i64 0,.int .i64 0,.slice none 0 0] 65)).alloc (.cells #[.int .i64 0,.int .i64 0,.int .i64 0,.int .i64 0,.slice none 0 0] 65)).drew (w1.heap.size+1) #[.int .i64 0,.int .i64 0,.int .i64 0,.int .i64 0,.slice none 0 0]:=by simpa using hNW.drew
   have k7:Hold ((w1.alloc (.cells #[.int .i64 0,.int .i64 0,.int .i64 0,.int .i64 0,.slice none 0 0] 65)).alloc (.cells #[.int .i64 0,.int .i64 0,.int .i64 0,.int .i64 0,.slice none 0 0] 65)).drew w1.heap.size #[.int .i64 0,.int .i64 0,.int .i64 0,.int .i64 0,.slice none 0 0]:=by simpa using ((Hold.new w1 _ _).ext (Ext.alloc _ _)).drew
   have hxW:=(((Ext.refl w1).alloc' (.cells #[.int .i64 0,.int .i64 0,.int .i64 0,.int .i64 0,.slice none 0 0] 65)).alloc' (.cells #[.int .i64 0,.int .i64 0,.int .i64 0,.int .i64 0,.slice none 0 0] 65)).drew
   have h67:(w1.heap.size+1)≠w1.heap.size:=by omega
   try simp only [World.size_alloc,World.size_drew]
   clear hNW hHeld hHeld2 hHeld3
   generalize ((w1.alloc (.cells #[.int .i64 0,.int .i64 0,.int .i64 0,.int .i64 0,.slice none 0 0] 65)).alloc (.cells #[.int .i64 0,.int .i64 0,.int .i64 0,.int .i64 0,.slice none 0 0] 65)).drew=W at k6 k7 hxW ⊢
   generalize hb1:w1.heap.size+1=b6 at k6 h67 ⊢
   generalize hb0:w1.heap.size=b7 at k7 h67 ⊢
   obtain ⟨l6,c6,f6,_⟩:=k6.box
   have hWW:Ext W W:=Ext.refl _
   have hA6:w1.heap.size≤b6:=by omega
   have hB7:w1.heap.size≤b7:=by omega
   clear hb0 hb1
   have m6:=((((Hold.set k6 0 (.int .i64 (T.kind xp xi))).set 1 (.int .i64 (T.peer xp xi))).set 2 (.int .i64 (T.msg xp xi))).set 3 (.int .i64 (T.time xp xi))).set 4 (.slice (T.aa xp xi) (T.an xp xi) (T.ac xp xi))
   have m7:=((((Hold.other k7 ⟨b6,0,none⟩ (.int .i64 (T.kind xp xi)) (fun e=>h67 e.symm)).other ⟨b6,1,none⟩ (.int .i64 (T.peer xp xi)) (fun e=>h67 e.symm)).other ⟨b6,2,none⟩ (.int .i64 (T.msg xp xi)) (fun e=>h67 e.symm)).other ⟨b6,3,none⟩ (.int .i64 (T.time xp xi)) (fun e=>h67 e.symm)).other ⟨b6,4,none⟩ (.slice (T.aa xp xi) (T.an xp xi) (T.ac xp xi)) (fun e=>h67 e.symm)
   have hxW2:=((((hxW.setCell (p:=⟨b6,0,none⟩) hA6 (.int .i64 (T.kind xp xi))).setCell (p:=⟨b6,1,none⟩) hA6 (.int .i64 (T.peer xp xi))).setCell (p:=⟨b6,2,none⟩) hA6 (.int .i64 (T.msg xp xi))).setCell (p:=⟨b6,3,none⟩) hA6 (.int .i64 (T.time xp xi))).setCell (p:=⟨b6,4,none⟩) hA6 (.slice (T.aa xp xi) (T.an xp xi) (T.ac xp xi))
   refine wpAnyH_ready (rs:=[26]) (by kernel_rfl) (by simp) ?_
   refine AllReadyH.cons rfl (fun K hK=>?_) AllReadyH.nil
   go_simp
   refine hK.out _ _ hxW2 (fun hHeld4=>?_)
   clear hK K
   try simp only [Act.put]
   clear l6 c6 f6 hWW k6 k7 hxW hHeld4
   generalize ((((W.setCell ⟨b6,0,none⟩ (.int .i64 (T.kind xp xi))).setCell ⟨b6,1,none⟩ (.int .i64 (T.peer xp xi))).setCell ⟨b6,2,none⟩ (.int .i64 (T.msg xp xi))).setCell ⟨b6,3,none⟩ (.int .i64 (T.time xp xi))).setCell ⟨b6,4,none⟩ (.slice (T.aa xp xi) (T.an xp xi) (T.ac xp xi))=W2 at m6 m7 hxW2 ⊢
   obtain ⟨l7,c7,f7,_⟩:=m7.box
   have hWW:Ext W2 W2:=Ext.refl _
   have n7:=((((Hold.set m7 0 (.int .i64 (T.kind yp yi))).set 1 (.int .i64 (T.peer yp yi))).set 2 (.int .i64 (T.msg yp yi))).set 3 (.int .i64 (T.time yp yi))).set 4 (.slice (T.aa yp yi) (T.an yp yi) (T.ac yp yi))
   have n6:=((((Hold.other m6 ⟨b7,0,none⟩ (.int .i64 (T.kind yp yi)) h67).other ⟨b7,1,none⟩ (.int .i64 (T.peer yp yi)) h67).other ⟨b7,2,none⟩ (.int .i64 (T.msg yp yi)) h67).other ⟨b7,3,none⟩ (.int .i64 (T.time yp yi)) h67).other ⟨b7,4,none⟩ (.slice (T.aa yp yi) (T.an yp yi) (T.ac yp yi)) h67
   have hxW3:=((((hxW2.setCell (p:=⟨b7,0,none⟩) hB7 (.int .i64 (T.kind yp yi))).setCell (p:=⟨b7,1,none⟩) hB7 (.int .i64 (T.peer yp yi))).setCell (p:=⟨b7,2,none⟩) hB7 (.int .i64 (T.msg yp yi))).setCell (p:=⟨b7,3,none⟩) hB7 (.int .i64 (T.time yp yi))).setCell (p:=⟨b7,4,none⟩) hB7 (.slice (T.aa yp yi) (T.an yp yi) (T.ac yp yi))
   refine wpAnyH_ready (rs:=[27]) (by kernel_rfl) (by simp) ?_
   refine AllReadyH.cons rfl (fun K hK=>?_) AllReadyH.nil
   go_simp
   refine hK.out _ _ hxW3 (fun hHeld5=>?_)
   clear hK K
   try simp only [Act.put]
   refine wpAnyH_done (by kernel_rfl) ?_ _
   go_wp2_with fail
   go_meet
   exact ⟨b6,b7,rfl,rfl,n6,n7,hxW3⟩
 case rest=>
  obtain ⟨b6,b7,rfl,rfl,k6,k7,hxc⟩:=hcut
  obtain ⟨l6,c6,_,_⟩:=k6.box
  obtain ⟨l7,c7,_,_⟩:=k7.box
  have hcc:Ext wc wc:=Ext.refl _
  have hxwc:=hx1.trans hxc
  clear p2 pb eax ebx eay eby q0 q1 q2 q3 q4 k6 k7
  by_cases f0:T.kind xp xi=2
  case neg=>
   have g0:(T.kind xp xi == 2)=false:=by simpa using f0
   go_wp2_with fail
   go_ret
   exact ⟨false,rfl,⟨fun h=>(by cases h),fun h=>absurd (HPN.out.1 h) (fun h=>f0 h.1)⟩,hxwc⟩
  have g0:(T.kind xp xi == 2)=true:=by simpa using f0
  by_cases f1:T.kind yp yi=3
  case neg=>
   have g1:(T.kind yp yi == 3)=false:=by simpa using f1
   go_wp2_with fail
   go_ret
   exact ⟨false,rfl,⟨fun h=>(by cases h),fun h=>absurd (HPN.out.1 h) (fun h=>f1 h.2.1)⟩,hxwc⟩
  have g1:(T.kind yp yi == 3)=true:=by simpa using f1
  by_cases f2:T.msg xp xi=T.msg yp yi
  case neg=>
   have g2:(T.msg xp xi == T.msg yp yi)=false:=by simpa using f2
   go_wp2_with fail
   go_ret
   exact ⟨false,rfl,⟨fun h=>(by cases h),fun h=>absurd (HPN.out.1 h) (fun h=>f2 h.2.2)⟩,hxwc⟩
  have g2:(T.msg xp xi == T.msg yp yi)=true:=by simpa using f2
  have HY:=Lib.hid (HPN.out.2 ⟨f0,f1,f2⟩)
  clear f0 f1 f2
  go_wp2_with fail
  go_ret
  exact ⟨true,ret_bool (by first | rfl | simp),⟨fun _=>HY.out,fun _=>rfl⟩,hxwc⟩
theorem totR_succ (f:Nat→Nat) (n:Nat):tot f (n+1)=tot f n+f n:=rfl
theorem totR_mono {f:Nat→Nat} {k:Nat}:∀ {n:Nat},k≤n→tot f k≤tot f n
 | 0,h => by rw [show k=0 by omega];exact Nat.le_refl _
 | n+1,h => by
  rcases Nat.lt_or_ge n k with h' | h'
  ·rw [show k=n+1 by omega];exact Nat.le_refl _
  ·have:=totR_mono (f:=f) h';rw [totR_succ];omega
set_option maxHeartbeats 2000000 in
theorem rdirect45_any (w : World) (T : TM) (hT : T.At w) (hV : T.toTr.Valid) (D : SyD) (hD : D.At w) (hL : SynOk T.toTr D.l) (xp xi yp yi : Nat) (hx : T.toTr.V (xp, xi)) (hy : T.toTr.V (yp, yi)) :
    Calls Tryz.prog 95 #[T.val,.slice D.s.a D.s.n D.s.c,.agg #[.int .i64 (xp:Nat),.int .i64 ((xi:Nat)+1)],.agg #[.int .i64 (yp:Nat),.int .i64 ((yi:Nat)+1)]] w (BoolPost ((yp,yi)∈T.toTr.gr D.l (xp,xi)) w):=by
 have HD1:=Lib.hid (fun W (h:Ext w W)=>rdirect13_any W T (hT.ext h) xp xi yp yi hx hy)
 have HHS:=Lib.hid (fun W (h:Ext w W)=>(show Calls Tryz.prog 58 #[.slice D.s.a D.s.n D.s.c,.agg #[.int .i64 (xp:Nat),.int .i64 ((xi:Nat)+1),.int .i64 (yp:Nat),.int .i64 ((yi:Nat)+1)]] W (BoolPost ((evI (xp,xi),evI (yp,yi))∈D.l) W) from rhas_any W D (hD.ext h) (evI (xp,xi),evI (yp,yi))))
 have HG:=Lib.hid (show (yp,yi)∈T.toTr.gr D.l (xp,xi)↔DirP T.toTr (xp,xi) (yp,yi)∨(evI (xp,xi),evI (yp,yi))∈D.l from by rw [mem_gr hL,dirP_fw hV hx hy])
 obtain ⟨ta,hta⟩:∃ z,z=T.a:=⟨_,rfl⟩
 obtain ⟨da,hda⟩:∃ z,z=D.s.a:=⟨_,rfl⟩
 obtain ⟨dn,hdn⟩:∃ z,z=D.s.n:=⟨_,rfl⟩
 simp only [TM.val,←hta] at HD1 ⊢
 rw [←hda,←hdn] at HHS
 rw [←hda,←hdn]
 clear hT hV hD hL hx hy hta hda hdn
 go_enter Tryz.func95,Tryz.ntmps95
 go_upto_region 1 with fail
 refine boxed3 (w:=w) (G:=fun x=>Code.wp _ _ _ _ x) ?_
 intro w1 hx1 hs1 ⟨l0,c0,_,_⟩ ⟨l1,c1,_,_⟩ ⟨l2,c2,_,_⟩
 have hx11:Ext w1 w1:=Ext.refl _
 clear hs1
 go_wp2_with fail
 go_at_call 59
 refine (HD1.out w1 hx1).mono ?_
 rintro e w2 ⟨b,rfl,hb,hx2⟩
 have hxw2:=hx1.trans hx2
 cases b with
 | true =>
  have HY:=Lib.hid (HG.out.2 (.inl (hb.1 rfl)))
  clear hb
  go_wp2_with fail
  go_ret
  exact ⟨true,rfl,⟨fun _=>HY.out,fun _=>rfl⟩,hxw2⟩
 | false =>
  have HN:=Lib.hid (show ¬DirP T.toTr (xp,xi) (yp,yi) from fun h=>absurd (hb.2 h) (by decide))
  clear hb
  go_wp2_with fail
  go_at_call 58
  refine (HHS.out w2 hxw2).mono ?_
  rintro e w3 ⟨b,rfl,hb,hx3⟩
  have HB:=Lib.hid hb
  clear hb
  go_wp2_with fail
  go_ret
  exact ⟨b,rfl,HB.out.trans ⟨fun h=>HG.out.2 (.inr h),fun h=>(HG.out.1 h).resolve_left HN.out⟩,hxw2.trans hx3⟩
def numE (T:Tr) (x:NN):Nat:=tot T.en x.1+x.2
theorem numE_lt {T:Tr} {x:NN} (hx:T.V x):numE T x<tot T.en T.n:=by
 have h1:=totR_mono (f:=T.en) (k:=x.1+1) (n:=T.n) hx.1
 rw [totR_succ] at h1
 have:=hx.2
 unfold numE;omega
theorem numE_inj {T:Tr} {x y:NN} (hx:T.V x) (hy:T.V y) (h:numE T x=numE T y):x=y:=by
 unfold numE at h
 have h1:=hx.2
 have h2:=hy.2
 rcases Nat.lt_trichotomy x.1 y.1 with e | e | e
 ·have:=totR_mono (f:=T.en) (k:=x.1+1) (n:=y.1) e
  rw [totR_succ] at this;omega
 ·rw [e] at h;exact Prod.ext e (by omega)
 ·have:=totR_mono (f:=T.en) (k:=y.1+1) (n:=x.1) e
  rw [totR_succ] at this;omega
theorem numE_ex {T:Tr} {k:Nat}:∀ {n:Nat},n≤T.n→k<tot T.en n→∃ x,T.V x∧numE T x=k
 | 0,_,h => absurd h (Nat.not_lt_zero _)
 | n+1,hn,h => by
  by_cases e:k<tot T.en n
  ·exact numE_ex (by omega) e
  ·rw [totR_succ] at h
   exact ⟨(n,k - tot T.en n),⟨by show n<T.n;omega,by show k - tot T.en n<T.en n;omega⟩,by show tot T.en n+(k - tot T.en n)=k;omega⟩
theorem revent13_results (tmps : Array Value) (W : World) (b : Nat) (x0 x1 : Value) (t4 : tmps[4]? = some (.pointer (some ⟨b, 0, none⟩))) (c0 : W.cell? ⟨b, 0, none⟩ = some x0) (c1 : W.cell? ⟨b, 1, none⟩ = some x1) :
    (results Tryz.f96 tmps).run Tryz.prog W=.ok (.agg #[x0,x1]) W:=by
 simp [results,go_sem,t4,c0,c1]
set_option maxHeartbeats 2000000 in
theorem revent13_any (w : World) (T : TM) (hT : T.At w) (hn : T.n ≤ 1000) (he : ∀ k, k < T.n → T.en k ≤ 100000) (p i : Nat) (hx : T.toTr.V (p, i)) :
    Calls Tryz.prog 96 #[T.val,.int .i64 ((tot T.en p+i:Nat):Int)] w fun e w'=>e=.returned (.agg #[.int .i64 (p:Nat),.int .i64 ((i:Nat)+1)])∧Ext w w':=by
 have hp:p<T.n:=hx.1
 have hi:i<T.en p:=hx.2
 have HT:=Lib.hid hT
 have HE:=Lib.hid he
 have htp:∀ q,q≤p→tot T.en q≤100000*q:=fun q=>by
  induction q with
  | zero => intro _;exact Nat.le_refl _
  | succ q ih =>
   intro h
   have:=ih (by omega)
   have:=he q (by omega)
   rw [totR_succ];omega
 have HTP:=Lib.hid htp
 have htp':=htp p (Nat.le_refl _)
 obtain ⟨ta,hta⟩:∃ z,z=T.a:=⟨_,rfl⟩
 obtain rfl:ta=some ⟨T.b,T.off,none⟩:=by rw [hta];exact hT.P.pa (by omega)
 obtain ⟨m,hm⟩:∃ m,m=tot T.en p+i:=⟨_,rfl⟩
 have HM:=Lib.hid hm
 simp only [TM.val,←hta]
 rw [←hm]
 have pb:=hT.P.pb (by omega)
 have hep:=he p hp
 clear hT hx hta he htp hm
 go_enter Tryz.func96,Tryz.ntmps96
 go_upto_region 1 with fail
 refine boxed2 (w:=w) (G:=fun x=>Code.wp _ _ _ _ x) ?_
 intro w1 hx1 hs1 ⟨l0,c0,_,_⟩ ⟨l1,c1,f1,k1⟩
 have HK:=Lib.hid (show Hold w1 (w.heap.size+1) #[.int .i64 0,.int .i64 0] from k1)
 have hx11:Ext w1 w1:=Ext.refl _
 clear hs1 k1
 go_wp2_with fail
 go_loopg [1,5] p (fun gg v1 v5 wr=>∃ q:Nat,q≤p∧gg=p - q∧v5=.int .i64 q∧v1=.int .i64 ((m - tot T.en q:Nat):Int)∧Ext w1 wr)
 case atStart=>exact ⟨0,by omega,rfl,rfl,rfl,hx11⟩
 case round=>
  obtain ⟨q,hq,rfl,rfl,rfl,hxr⟩:=hrel
  have hxw:=hx1.trans hxr
  have hqn:q<T.n:=by omega
  have hqn':(q:Int)<(T.n:Int):=by omega
  obtain ⟨eq,heq⟩:∃ z,z=T.en q:=⟨_,rfl⟩
  have p2:∀ w',Ext w w'→w'.cell? ⟨T.b,T.off+q*3+2,none⟩=some (.slice (T.ea q) eq (T.ec q)):=fun w' h=>by rw [heq];exact HT.out.P.p2 w' h q hqn
  have heq2:eq≤100000:=by rw [heq];exact HE.out q hqn
  have HEQ:=Lib.hid heq
  obtain ⟨s,hs⟩:∃ s,s=tot T.en q:=⟨_,rfl⟩
  have HS:=Lib.hid hs
  have hsm:s≤100000*q:=by rw [hs];exact HTP.out q hq
  rw [←hs]
  obtain ⟨r,hr⟩:∃ r,r=m - s:=⟨_,rfl⟩
  rw [←hr]
  have HR:=Lib.hid hr
  have hmb:m≤100000*1000+100000:=by rw [HM.out];omega
  by_cases hlt:q<p
  ·have hge : eq ≤ r := by
     have h1:=totR_mono (f:=T.en) (k:=q+1) (n:=p) hlt
     rw [totR_succ,←hs,←heq] at h1
     have:=HM.out
     omega
   have d1:decide ((eq:Int)≤(r:Int))=true:=decide_eq_true (by omega)
   have d1':decide (eq≤r)=true:=decide_eq_true hge
   have HT1:=Lib.hid (show r - eq=m - tot T.en (q+1) from by rw [totR_succ,←hs,←heq];omega)
   have hw1:IntKind.i64.wrap ((r:Int) - (eq:Int))=((r - eq:Nat):Int):=by rw [IntWalk.i64_in _ (by omega)];omega
   clear hs hr heq
   go_wp2_with fail
   go_roundg (p - (q+1))
   case rel=>exact ⟨q+1,by omega,rfl,by go_num,congrArg (fun z:Nat=>Value.int .i64 (z:Int)) HT1.out,hxr⟩
   case measure=>omega
  ·obtain rfl:q=p:=by omega
   have hri:r=i:=by rw [hr,HM.out,hs];omega
   subst hri
   have hlt2:¬eq≤r:=by rw [heq];omega
   have d1:decide ((eq:Int)≤(r:Int))=false:=decide_eq_false (by omega)
   have d1':decide (eq≤r)=false:=decide_eq_false hlt2
   have hw1:IntKind.i64.wrap ((r:Int)+1)=(r:Int)+1:=IntWalk.i64_in _ (by omega)
   clear hs hr heq
   go_wp2_with fail
   have HG:=Lib.hid (((HK.out.ext hxr).set 0 (.int .i64 (q:Nat))).set 1 (.int .i64 ((r:Nat)+1)))
   refine bodyPost_ret (revent13_results _ _ _ _ _ rfl (HG.out.cell0 0) (HG.out.cell0 1)) rfl ?_
   have hb:w.heap.size≤w.heap.size+1:=by omega
   exact ⟨rfl,Ext.setCell (Ext.setCell hxw hb _) hb _⟩
end Go.Proofs.YtkhgpockmaghjaaGreat
