/- Contracts and laws in plain Lean for RApp: group W65. -/
import Derived.Test.YtkhgpockmaghjaaGreatW38
import Derived.Test.YtkhgpockmaghjaaGreatW36
set_option maxRecDepth 100000
namespace Go.Proofs.YtkhgpockmaghjaaGreat
open Go.RowKit Go.Shelf
set_option maxHeartbeats 1000000 in
theorem rsame24_any (w : World) (a1 a2 : Option Addr) (g1 o1 g2 o2 n m c1 c2 : Nat) (u v : Nat → Int) (h1 : NumAt w n a1 g1 o1 u) (h2 : NumAt w m a2 g2 o2 v) :
    Calls Tryz.prog 74 #[.slice a1 n c1,.slice a2 m c2] w (BoolPost (EqL n m u v) w):=by
 have hn1:=h1.hn
 have hn2:=h2.hn
 have H1:=Lib.hid h1
 have H2:=Lib.hid h2
 have hww:Ext w w:=Ext.refl _
 clear h1 h2
 go_enter Tryz.func74,Tryz.ntmps74
 by_cases hnm:n=m
 ·subst hnm
  have d0:((n:Int) == (n:Int))=true:=by simp
  go_wp2_with fail
  go_loopg [5] n (fun gg v5 wr=>∃ k:Nat,k≤n∧gg=n - k∧v5=.int .i64 k∧Ext w wr∧∀ i,i<k→u i=v i)
  case atStart=>exact ⟨0,by omega,rfl,rfl,hww,fun i h=>by omega⟩
  case round=>
   obtain ⟨k,hk,rfl,rfl,hxr,hall⟩:=hrel
   have HA:=Lib.hid hall
   clear hall
   by_cases hlt:k<n
   ·have hlt':(k:Int)<(n:Int):=by omega
    obtain rfl:=H1.out.pa (by omega)
    obtain rfl:=H2.out.pa (by omega)
    have pb1:∀ w',Ext w w'→g1<w'.heap.size:=fun w' x=>Nat.lt_of_lt_of_le (H1.out.pb (by omega)) x.le
    have pb2:∀ w',Ext w w'→g2<w'.heap.size:=fun w' x=>Nat.lt_of_lt_of_le (H2.out.pb (by omega)) x.le
    obtain ⟨x,hx⟩:∃ x,x=u k:=⟨_,rfl⟩
    obtain ⟨y,hy⟩:∃ y,y=v k:=⟨_,rfl⟩
    have p1:∀ w',Ext w w'→w'.cell? ⟨g1,o1+k,none⟩=some (.int .i64 x):=fun w' h=>by rw [hx];exact h.cell (H1.out.c k hlt)
    have q1:∀ w',Ext w w'→w'.cell? ⟨g2,o2+k,none⟩=some (.int .i64 y):=fun w' h=>by rw [hy];exact h.cell (H2.out.c k hlt)
    have HX:=Lib.hid (And.intro hx hy)
    clear hx hy
    by_cases e:x=y
    ·subst e
     have d1:(x == x)=true:=by simp
     go_upto_region 6 with fail
     go_quiet (fail)
     have hq:=hxr.drewN nq
     go_wp2_with fail
     go_roundg (n - (k+1))
     case rel=>exact ⟨k+1,by omega,rfl,by go_num,hq,fun i hi=>by
      by_cases e:i=k
      ·subst e;rw [←HX.out.1,←HX.out.2]
      ·exact HA.out i (by omega)⟩
     case measure=>omega
    ·have d1:(x == y)=false:=by simpa using e
     go_upto_region 6 with fail
     go_quiet (fail)
     have hq:=hxr.drewN nq
     go_wp2_with fail
     go_ret
     exact ⟨false,rfl,⟨fun h=>(by cases h),fun h=>absurd (h.2 k hlt) (by rw [←HX.out.1,←HX.out.2];exact e)⟩,hq⟩
   ·obtain rfl:k=n:=by omega
    go_wp2_with fail
    go_ret
    exact ⟨true,rfl,⟨fun _=>⟨rfl,HA.out⟩,fun _=>rfl⟩,hxr⟩
 ·have d0:((n:Int) == (m:Int))=false:=by simpa using fun h:(n:Int)=m=>hnm (by omega)
  have d0':(n == m)=false:=by simpa using hnm
  go_wp2_with fail
  go_ret
  exact ⟨false,rfl,⟨fun h=>(by cases h),fun h=>absurd h.1 hnm⟩,hww⟩
set_option maxHeartbeats 1000000 in
theorem rsamecut_any (w : World) (a1 a2 : Option Addr) (g1 o1 g2 o2 n m c1 c2 : Nat) (u v : Nat → Int) (h1 : NumAt w n a1 g1 o1 u) (h2 : NumAt w m a2 g2 o2 v) :
    Calls Tryz.prog 107 #[.slice a1 n c1,.slice a2 m c2] w (BoolPost (EqL n m u v) w):=by
 have hn1:=h1.hn
 have hn2:=h2.hn
 have H1:=Lib.hid h1
 have H2:=Lib.hid h2
 have hww:Ext w w:=Ext.refl _
 clear h1 h2
 go_enter Tryz.func107,Tryz.ntmps107
 by_cases hnm:n=m
 ·subst hnm
  have d0:((n:Int) == (n:Int))=true:=by simp
  go_wp2_with fail
  go_loopg [5] n (fun gg v5 wr=>∃ k:Nat,k≤n∧gg=n - k∧v5=.int .i64 k∧Ext w wr∧∀ i,i<k→u i=v i)
  case atStart=>exact ⟨0,by omega,rfl,rfl,hww,fun i h=>by omega⟩
  case round=>
   obtain ⟨k,hk,rfl,rfl,hxr,hall⟩:=hrel
   have HA:=Lib.hid hall
   clear hall
   by_cases hlt:k<n
   ·have hlt':(k:Int)<(n:Int):=by omega
    obtain rfl:=H1.out.pa (by omega)
    obtain rfl:=H2.out.pa (by omega)
    have pb1:∀ w',Ext w w'→g1<w'.heap.size:=fun w' x=>Nat.lt_of_lt_of_le (H1.out.pb (by omega)) x.le
    have pb2:∀ w',Ext w w'→g2<w'.heap.size:=fun w' x=>Nat.lt_of_lt_of_le (H2.out.pb (by omega)) x.le
    obtain ⟨x,hx⟩:∃ x,x=u k:=⟨_,rfl⟩
    obtain ⟨y,hy⟩:∃ y,y=v k:=⟨_,rfl⟩
    have p1:∀ w',Ext w w'→w'.cell? ⟨g1,o1+k,none⟩=some (.int .i64 x):=fun w' h=>by rw [hx];exact h.cell (H1.out.c k hlt)
    have q1:∀ w',Ext w w'→w'.cell? ⟨g2,o2+k,none⟩=some (.int .i64 y):=fun w' h=>by rw [hy];exact h.cell (H2.out.c k hlt)
    have HX:=Lib.hid (And.intro hx hy)
    clear hx hy
    by_cases e:x=y
    ·subst e
     have d1:(x == x)=true:=by simp
     go_upto_region 6 with fail
     go_quiet (fail)
     have hq:=hxr.drewN nq
     go_wp2_with fail
     go_roundg (n - (k+1))
     case rel=>exact ⟨k+1,by omega,rfl,by go_num,hq,fun i hi=>by
      by_cases e:i=k
      ·subst e;rw [←HX.out.1,←HX.out.2]
      ·exact HA.out i (by omega)⟩
     case measure=>omega
    ·have d1:(x == y)=false:=by simpa using e
     go_upto_region 6 with fail
     go_quiet (fail)
     have hq:=hxr.drewN nq
     go_wp2_with fail
     go_ret
     exact ⟨false,rfl,⟨fun h=>(by cases h),fun h=>absurd (h.2 k hlt) (by rw [←HX.out.1,←HX.out.2];exact e)⟩,hq⟩
   ·obtain rfl:k=n:=by omega
    go_wp2_with fail
    go_ret
    exact ⟨true,rfl,⟨fun _=>⟨rfl,HA.out⟩,fun _=>rfl⟩,hxr⟩
 ·have d0:((n:Int) == (m:Int))=false:=by simpa using fun h:(n:Int)=m=>hnm (by omega)
  have d0':(n == m)=false:=by simpa using hnm
  go_wp2_with fail
  go_ret
  exact ⟨false,rfl,⟨fun h=>(by cases h),fun h=>absurd h.1 hnm⟩,hww⟩
theorem bool_fix {f:Nat} {args:Array Value} {w:World} {p:Prop} {b:Bool} (h:Calls Tryz.prog f args w (BoolPost p w)) (hb:b=true↔p):Calls Tryz.prog f args w (fun e w'=>e=.returned (.bool b)∧Ext w w'):=
 h.mono fun e w' ⟨c,he,hc,x⟩=>⟨by
  have:c=b:=by cases c <;> cases b <;> simp_all
  rw [he,this],x⟩
theorem row_eqL {r s:Row}:EqL r.l.length s.l.length (natV (fn r.l)) (natV (fn s.l))↔r.l=s.l:=by
 constructor
 ·rintro ⟨h1,h2⟩
  exact fn_ext h1 fun p hp=>by have:=h2 p hp;simp only [natV] at this;omega
 ·intro h;rw [h];exact ⟨rfl,fun _ _=>rfl⟩
set_option maxHeartbeats 1000000 in
theorem rsames_any (w : World) (va vb : Value) (ba bb : Nat) (A B : List Row) (hA : RowsQ w ba va A) (hB : RowsQ w bb vb B) (hl : A.length ≤ 100000) (hl2 : B.length ≤ 100000) :
    Calls Tryz.prog 28 #[va,vb] w (BoolPost (A.map Row.l=B.map Row.l) w):=by
 obtain ⟨a,g,o,ca,rfl,_,hpa,hca⟩:=hA.get
 obtain ⟨a2,g2,o2,cb,rfl,_,hpb,hcb⟩:=hB.get
 have HA:=Lib.hid hA.2
 have HB:=Lib.hid hB.2
 have HCA:=Lib.hid hca
 have HCB:=Lib.hid hcb
 obtain ⟨n,hn⟩:∃ n,n=A.length:=⟨_,rfl⟩
 obtain ⟨m,hm⟩:∃ m,m=B.length:=⟨_,rfl⟩
 have HNM:=Lib.hid (And.intro hn hm)
 rw [←hn] at hpa hl
 rw [←hm] at hpb hl2
 rw [←hn,←hm]
 have hww:Ext w w:=Ext.refl _
 clear hA hB hca hcb hn hm
 go_enter Tryz.func28,Tryz.ntmps28
 by_cases hnm:n=m
 ·subst hnm
  have d0:((n:Int) == (n:Int))=true:=by simp
  go_wp2_with fail
  go_loopg [5] n (fun gg v5 wr=>∃ k:Nat,k≤n∧gg=n - k∧v5=.int .i64 k∧Ext w wr∧(A.map Row.l).take k=(B.map Row.l).take k)
  case atStart=>exact ⟨0,by omega,rfl,rfl,hww,rfl⟩
  case round=>
   obtain ⟨k,hk,rfl,rfl,hxr,hall⟩:=hrel
   have HL:=Lib.hid hall
   clear hall
   by_cases hlt:k<n
   ·have hlt':(k:Int)<(n:Int):=by omega
    have hkA:k<A.length:=by rw [←HNM.out.1];exact hlt
    have hkB:k<B.length:=by rw [←HNM.out.2];exact hlt
    obtain ⟨rfl,_,hga⟩:=hpa (by omega)
    obtain ⟨rfl,_,hgb⟩:=hpb (by omega)
    have pb1:∀ w',Ext w w'→g<w'.heap.size:=fun w' x=>Nat.lt_of_lt_of_le hga x.le
    have pb2:∀ w',Ext w w'→g2<w'.heap.size:=fun w' x=>Nat.lt_of_lt_of_le hgb x.le
    obtain ⟨r,hr⟩:∃ r,r=A[k]:=⟨_,rfl⟩
    obtain ⟨s,hs⟩:∃ s,s=B[k]:=⟨_,rfl⟩
    have p1:∀ w',Ext w w'→w'.cell? ⟨g,o+k,none⟩=some (.slice r.a r.l.length r.c):=fun w' h=>by rw [hr];exact HCA.out k hkA w' h
    have q1:∀ w',Ext w w'→w'.cell? ⟨g2,o2+k,none⟩=some (.slice s.a s.l.length s.c):=fun w' h=>by rw [hs];exact HCB.out k hkB w' h
    have hcl:=fun W (x:Ext w W)=>rsame24_any W r.a s.a r.g r.o s.g s.o r.l.length s.l.length r.c s.c (natV (fn r.l)) (natV (fn s.l)) (Row.At.ext (HA.out r (by rw [hr];exact List.getElem_mem hkA)) x) (Row.At.ext (HB.out s (by rw [hs];exact List.getElem_mem hkB)) x)
    obtain ⟨bb,hbb⟩:=exists_bool (r.l=s.l)
    have HBB:=Lib.hid hbb
    have HCL:=Lib.hid (fun W (x:Ext w W)=>bool_fix (hcl W x) (hbb.trans row_eqL.symm))
    clear hbb
    have HS:=Lib.hid (show (A.map Row.l).take (k+1)=(B.map Row.l).take (k+1)↔r.l=s.l from by
     rw [List.take_add_one,List.take_add_one,HL.out,List.append_cancel_left_eq,List.getElem?_map,List.getElem?_map,List.getElem?_eq_getElem hkA,List.getElem?_eq_getElem hkB,←hr,←hs]
     simp)
    have HN:=Lib.hid (show A.map Row.l=B.map Row.l→r.l=s.l from fun h=>HS.out.1 (by rw [h]))
    clear hr hs hcl hga hgb hpa hpb
    obtain ⟨rn,hrn⟩:∃ z,z=r.l.length:=⟨_,rfl⟩
    obtain ⟨sn,hsn⟩:∃ z,z=s.l.length:=⟨_,rfl⟩
    rw [←hrn,←hsn] at HCL
    rw [←hrn] at p1
    rw [←hsn] at q1
    clear hrn hsn
    have hg0:∀ d os,Ext w (Sort.grow (redrawn wr d) os):=fun d os=>hxr.trans (below_regrown wr d os)
    have H9:=HCL.out
    cases bb with
    | false =>
     go_upto_region 6 with fail
     refine wp_region_quiet_below (by kernel_rfl) (by kernel_rfl) ?_
     repeat (go_big_quiet_step (exact Calls.regrown_of (H9 _ (hg0 _ _))))
     refine wpQuiet_nil ?_
     intro _ hw'
     obtain ⟨⟨dq,osq⟩,hw''⟩:=hw'
     subst hw''
     have hxw2:=hg0 dq osq
     clear hg0 H9
     generalize Sort.grow (redrawn wr dq) osq=w2 at hxw2 ⊢
     go_wp2_with fail
     go_ret
     exact ⟨false,rfl,⟨fun h=>(by cases h),fun h=>absurd (HBB.out.2 (HN.out h)) (by simp)⟩,hxw2⟩
    | true =>
     have HS2:=Lib.hid (HS.out.2 (HBB.out.1 rfl))
     go_upto_region 6 with fail
     refine wp_region_quiet_below (by kernel_rfl) (by kernel_rfl) ?_
     repeat (go_big_quiet_step (exact Calls.regrown_of (H9 _ (hg0 _ _))))
     refine wpQuiet_nil ?_
     intro _ hw'
     obtain ⟨⟨dq,osq⟩,hw''⟩:=hw'
     subst hw''
     have hxw2:=hg0 dq osq
     clear hg0 H9
     generalize Sort.grow (redrawn wr dq) osq=w2 at hxw2 ⊢
     go_wp2_with fail
     go_roundg (n - (k+1))
     case rel=>exact ⟨k+1,by omega,rfl,by go_num,hxw2,HS2.out⟩
     case measure=>omega
   ·obtain rfl:k=n:=by omega
    have HE:=Lib.hid (show A.map Row.l=B.map Row.l from by
     have h1:=HL.out
     rw [List.take_of_length_le (by rw [List.length_map,←HNM.out.1];exact Nat.le_refl _),List.take_of_length_le (by rw [List.length_map,←HNM.out.2];exact Nat.le_refl _)] at h1
     exact h1)
    go_wp2_with fail
    go_ret
    exact ⟨true,rfl,⟨fun _=>HE.out,fun _=>rfl⟩,hxr⟩
 ·have d0:((n:Int) == (m:Int))=false:=by simpa using fun h:(n:Int)=m=>hnm (by omega)
  have d0':(n == m)=false:=by simpa using hnm
  have HE:=Lib.hid (show ¬A.map Row.l=B.map Row.l from fun h=>hnm (by
   have:=congrArg List.length h
   rw [List.length_map,List.length_map] at this
   rw [HNM.out.1,HNM.out.2];exact this))
  go_wp2_with fail
  go_ret
  exact ⟨false,rfl,⟨fun h=>(by cases h),fun h=>absurd h HE.out⟩,hww⟩
set_option maxHeartbeats 1000000 in
theorem revents_tot (w : World) (T : TM) (hT : T.At w) (hn : T.n ≤ 1000) (he : ∀ k, k < T.n → T.en k ≤ 100000) :
    Calls Tryz.prog 24 #[T.val] w fun e w'=>e=.returned (.int .i64 (tot T.en T.n:Nat))∧Ext w w':=by
 have HT:=Lib.hid hT
 have HE:=Lib.hid he
 clear hT he
 obtain ⟨ta,hta⟩:∃ a,a=T.a:=⟨_,rfl⟩
 have HTA:=Lib.hid hta
 simp only [TM.val,←hta]
 clear hta
 go_enter Tryz.func24,Tryz.ntmps24
 go_upto_region 1 with fail
 refine boxed1 (w:=w) (G:=fun x=>Code.wp _ _ _ _ x) ?_
 intro w1 hx1 hs1 ⟨l0,c0,_,_⟩
 have hx11:Ext w1 w1:=Ext.refl _
 clear hs1
 go_wp2_with fail
 go_loopg [3,4] T.n (fun gg v3 v4 wr=>∃ k:Nat,k≤T.n∧gg=T.n - k∧v4=.int .i64 k∧v3=.int .i64 (tot T.en k:Nat)∧tot T.en k≤100000*k∧Ext w1 wr)
 case atStart=>exact ⟨0,by omega,rfl,rfl,rfl,by show 0≤100000*0;omega,hx11⟩
 case round=>
  obtain ⟨k,hk,rfl,rfl,rfl,ht,hxr⟩:=hrel
  have hxw:=hx1.trans hxr
  by_cases hlt:k<T.n
  ·have hlt':(k:Int)<(T.n:Int):=by omega
   obtain rfl:ta=some ⟨T.b,T.off,none⟩:=by rw [HTA.out];exact HT.out.P.pa (by omega)
   have pb:=HT.out.P.pb (by omega)
   obtain ⟨ek,hek⟩:∃ z,z=T.en k:=⟨_,rfl⟩
   have p2:∀ w',Ext w w'→w'.cell? ⟨T.b,T.off+k*3+2,none⟩=some (.slice (T.ea k) ek (T.ec k)):=fun w' h=>by rw [hek];exact HT.out.P.p2 w' h k hlt
   have he1:=HE.out k hlt
   rw [←hek] at he1
   have HM:=Lib.hid (show tot T.en (k+1)=tot T.en k+ek from by rw [hek];rfl)
   obtain ⟨s,hs⟩:∃ s,s=tot T.en k:=⟨_,rfl⟩
   rw [←hs] at HM ht ⊢
   have hw1:IntKind.i64.wrap ((s:Int)+(ek:Int))=((s+ek:Nat):Int):=by rw [IntWalk.i64_in _ (by omega)];omega
   clear hs hek
   go_wp2_with fail
   go_roundg (T.n - (k+1))
   case rel=>exact ⟨k+1,by omega,rfl,by go_num,congrArg (Value.int .i64) (by rw [HM.out];omega),by rw [HM.out];omega,hxr⟩
   case measure=>omega
  ·obtain rfl:k=T.n:=by omega
   go_wp2_with fail
   go_ret
   exact ⟨rfl,hxw⟩
def SameEv (T:Tr) (k i:Nat) (U:Tr) (p j:Nat):Prop:=T.kind k i=U.kind p j∧T.peer k i=U.peer p j∧T.msg k i=U.msg p j∧T.time k i=U.time p j∧T.an k i=U.an p j∧∀ l,l<T.an k i→T.avar k i l=U.avar p j l∧T.aval k i l=U.aval p j l
set_option maxHeartbeats 4000000 in
theorem rsameev_any (w : World) (T U : TM) (hT : T.At w) (hU : U.At w) (k i p j : Nat) (hk : k < T.n) (hi : i < T.en k) (hp : p < U.n) (hj : j < U.en p) :
    Calls Tryz.prog 33 #[T.ev k i,U.ev p j] w (BoolPost (SameEv T.toTr k i U.toTr p j) w):=by
 have HT:=Lib.hid hT
 have HU:=Lib.hid hU
 have hTa:=hT.A.ha k i hk hi
 have hUa:=hU.A.ha p j hp hj
 obtain ⟨ta,hta⟩:∃ z,z=T.aa k i:=⟨_,rfl⟩
 obtain ⟨ua,hua⟩:∃ z,z=U.aa p j:=⟨_,rfl⟩
 obtain ⟨t0,h0⟩:∃ z,z=T.kind k i:=⟨_,rfl⟩
 obtain ⟨t1,h1⟩:∃ z,z=T.peer k i:=⟨_,rfl⟩
 obtain ⟨t2,h2⟩:∃ z,z=T.msg k i:=⟨_,rfl⟩
 obtain ⟨t3,h3⟩:∃ z,z=T.time k i:=⟨_,rfl⟩
 obtain ⟨t4,h4⟩:∃ z,z=T.an k i:=⟨_,rfl⟩
 obtain ⟨u0,g0⟩:∃ z,z=U.kind p j:=⟨_,rfl⟩
 obtain ⟨u1,g1⟩:∃ z,z=U.peer p j:=⟨_,rfl⟩
 obtain ⟨u2,g2⟩:∃ z,z=U.msg p j:=⟨_,rfl⟩
 obtain ⟨u3,g3⟩:∃ z,z=U.time p j:=⟨_,rfl⟩
 obtain ⟨u4,g4⟩:∃ z,z=U.an p j:=⟨_,rfl⟩
 rw [←h4] at hTa
 rw [←g4] at hUa
 simp only [TM.ev,←hta,←hua,←h0,←h1,←h2,←h3,←h4,←g0,←g1,←g2,←g3,←g4]
 have HTA:=Lib.hid hta
 have HUA:=Lib.hid hua
 have HS:=Lib.hid (show SameEv T.toTr k i U.toTr p j↔t0=u0∧t1=u1∧t2=u2∧t3=u3∧t4=u4∧∀ l,l<t4→T.avar k i l=U.avar p j l∧T.aval k i l=U.aval p j l from by
  rw [h0,h1,h2,h3,h4,g0,g1,g2,g3,g4];rfl)
 have HN:=Lib.hid (And.intro h4 g4)
 clear hT hU hta hua h0 h1 h2 h3 h4 g0 g1 g2 g3 g4
 go_enter Tryz.func33,Tryz.ntmps33
 go_upto_region 1 with fail
 refine boxed2 (w:=w) (G:=fun x=>Code.wp _ _ _ _ x) ?_
 intro w1 hx1 hs1 ⟨l0,c0,_,_⟩ ⟨l1,c1,_,_⟩
 have hx11:Ext w1 w1:=Ext.refl _
 clear hs1
 by_cases e0:t0=u0
 case neg=>
  have d0:(t0 == u0)=false:=by simpa using e0
  have HN:=Lib.hid (show ¬SameEv T.toTr k i U.toTr p j from fun h=>e0 (HS.out.1 h).1)
  go_wp2_with fail
  go_ret
  exact ⟨false,rfl,⟨fun h=>(by cases h),fun h=>absurd h HN.out⟩,hx1⟩
 subst e0
 have d0:(t0 == t0)=true:=by simp
 by_cases e1:t1=u1
 case neg=>
  have d1:(t1 == u1)=false:=by simpa using e1
  have HN:=Lib.hid (show ¬SameEv T.toTr k i U.toTr p j from fun h=>e1 (HS.out.1 h).2.1)
  go_wp2_with fail
  go_ret
  exact ⟨false,rfl,⟨fun h=>(by cases h),fun h=>absurd h HN.out⟩,hx1⟩
 subst e1
 have d1:(t1 == t1)=true:=by simp
 by_cases e2:t2=u2
 case neg=>
  have d2:(t2 == u2)=false:=by simpa using e2
  have HN:=Lib.hid (show ¬SameEv T.toTr k i U.toTr p j from fun h=>e2 (HS.out.1 h).2.2.1)
  go_wp2_with fail
  go_ret
  exact ⟨false,rfl,⟨fun h=>(by cases h),fun h=>absurd h HN.out⟩,hx1⟩
 subst e2
 have d2:(t2 == t2)=true:=by simp
 by_cases e3:t3=u3
 case neg=>
  have d3:(t3 == u3)=false:=by simpa using e3
  have HN:=Lib.hid (show ¬SameEv T.toTr k i U.toTr p j from fun h=>e3 (HS.out.1 h).2.2.2.1)
  go_wp2_with fail
  go_ret
  exact ⟨false,rfl,⟨fun h=>(by cases h),fun h=>absurd h HN.out⟩,hx1⟩
 subst e3
 have d3:(t3 == t3)=true:=by simp
 by_cases e4:t4=u4
 case neg=>
  have d4:((t4:Int) == (u4:Int))=false:=by simpa using fun h:(t4:Int)=u4=>e4 (by omega)
  have d4':(t4 == u4)=false:=by simpa using e4
  have HN:=Lib.hid (show ¬SameEv T.toTr k i U.toTr p j from fun h=>e4 (HS.out.1 h).2.2.2.2.1)
  go_wp2_with fail
  go_ret
  exact ⟨false,rfl,⟨fun h=>(by cases h),fun h=>absurd h HN.out⟩,hx1⟩
 subst e4
 have d4:((t4:Int) == (t4:Int))=true:=by simp
 go_wp2_with fail
 go_loopg [5] t4 (fun gg v5 wr=>∃ l:Nat,l≤t4∧gg=t4 - l∧v5=.int .i64 l∧Ext w1 wr∧∀ m,m<l→T.avar k i m=U.avar p j m∧T.aval k i m=U.aval p j m)
 case atStart=>exact ⟨0,by omega,rfl,rfl,hx11,fun m h=>by omega⟩
 case round=>
  obtain ⟨l,hl,rfl,rfl,hxr,hall⟩:=hrel
  have HA:=Lib.hid hall
  have hxw:=hx1.trans hxr
  clear hall
  by_cases hlt:l<t4
  ·have hlt':(l:Int)<(t4:Int):=by omega
   have hlT:l<T.an k i:=by rw [←HN.out.1];exact hlt
   have hlU:l<U.an p j:=by rw [←HN.out.2];exact hlt
   obtain rfl:ta=_:=HTA.out.trans (HT.out.A.aa k i hk hi (by omega))
   obtain rfl:ua=_:=HUA.out.trans (HU.out.A.aa p j hp hj (by omega))
   have pb1:=HT.out.A.ab k i hk hi (by omega)
   have pb2:=HU.out.A.ab p j hp hj (by omega)
   obtain ⟨x0,hx0⟩:∃ z,z=T.avar k i l:=⟨_,rfl⟩
   obtain ⟨x1,hx1'⟩:∃ z,z=T.aval k i l:=⟨_,rfl⟩
   obtain ⟨y0,hy0⟩:∃ z,z=U.avar p j l:=⟨_,rfl⟩
   obtain ⟨y1,hy1⟩:∃ z,z=U.aval p j l:=⟨_,rfl⟩
   have p0:∀ w',Ext w w'→w'.cell? ⟨T.ab k i,T.ao k i+l*2,none⟩=some (.int .i64 x0):=fun w' h=>by rw [hx0];exact HT.out.A.a0 w' h k i l hk hi hlT
   have p1:∀ w',Ext w w'→w'.cell? ⟨T.ab k i,T.ao k i+l*2+1,none⟩=some (.int .i64 x1):=fun w' h=>by rw [hx1'];exact HT.out.A.a1 w' h k i l hk hi hlT
   have q0:∀ w',Ext w w'→w'.cell? ⟨U.ab p j,U.ao p j+l*2,none⟩=some (.int .i64 y0):=fun w' h=>by rw [hy0];exact HU.out.A.a0 w' h p j l hp hj hlU
   have q1:∀ w',Ext w w'→w'.cell? ⟨U.ab p j,U.ao p j+l*2+1,none⟩=some (.int .i64 y1):=fun w' h=>by rw [hy1];exact HU.out.A.a1 w' h p j l hp hj hlU
   have HX:=Lib.hid (And.intro hx0 (And.intro hx1' (And.intro hy0 hy1)))
   clear hx0 hx1' hy0 hy1 hlT hlU
   have hg0:∀ d os,Ext w (Sort.grow (redrawn wr d) os):=fun d os=>hxw.trans (below_regrown wr d os)
   have hg1:∀ d os,Ext w1 (Sort.grow (redrawn wr d) os):=fun d os=>hxr.trans (below_regrown wr d os)
   by_cases f0:x0=y0
   case neg=>
    have d5:(x0 == y0)=false:=by simpa using f0
    have HNN:=Lib.hid (show ¬SameEv T.toTr k i U.toTr p j from fun h=>f0 (by rw [HX.out.1,HX.out.2.2.1];exact ((HS.out.1 h).2.2.2.2.2 l hlt).1))
    go_upto_region 6 with fail
    refine wp_region_quiet_below (by kernel_rfl) (by kernel_rfl) ?_
    repeat (go_big_quiet_step (fail))
    refine wpQuiet_nil ?_
    intro _ hw'
    obtain ⟨⟨dq,osq⟩,hw''⟩:=hw'
    subst hw''
    have hx2:=hg1 dq osq
    clear hg0 hg1
    generalize Sort.grow (redrawn wr dq) osq=w2 at hx2 ⊢
    go_wp2_with fail
    go_ret
    exact ⟨false,rfl,⟨fun h=>(by cases h),fun h=>absurd h HNN.out⟩,hx1.trans hx2⟩
   subst f0
   have d5:(x0 == x0)=true:=by simp
   by_cases f1:x1=y1
   case neg=>
    have d6:(x1 == y1)=false:=by simpa using f1
    have HNN:=Lib.hid (show ¬SameEv T.toTr k i U.toTr p j from fun h=>f1 (by rw [HX.out.2.1,HX.out.2.2.2];exact ((HS.out.1 h).2.2.2.2.2 l hlt).2))
    go_upto_region 6 with fail
    refine wp_region_quiet_below (by kernel_rfl) (by kernel_rfl) ?_
    repeat (go_big_quiet_step (fail))
    refine wpQuiet_nil ?_
    intro _ hw'
    obtain ⟨⟨dq,osq⟩,hw''⟩:=hw'
    subst hw''
    have hx2:=hg1 dq osq
    clear hg0 hg1
    generalize Sort.grow (redrawn wr dq) osq=w2 at hx2 ⊢
    go_wp2_with fail
    go_ret
    exact ⟨false,rfl,⟨fun h=>(by cases h),fun h=>absurd h HNN.out⟩,hx1.trans hx2⟩
   subst f1
   have d6:(x1 == x1)=true:=by simp
   have HAL:=Lib.hid (show ∀ m,m<l+1→T.avar k i m=U.avar p j m∧T.aval k i m=U.aval p j m from fun m hm=>by
    by_cases e:m=l
    ·subst e;exact ⟨by rw [←HX.out.1,←HX.out.2.2.1],by rw [←HX.out.2.1,←HX.out.2.2.2]⟩
    ·exact HA.out m (by omega))
   go_upto_region 6 with fail
   refine wp_region_quiet_below (by kernel_rfl) (by kernel_rfl) ?_
   repeat (go_big_quiet_step (fail))
   refine wpQuiet_nil ?_
   intro _ hw'
   obtain ⟨⟨dq,osq⟩,hw''⟩:=hw'
   subst hw''
   have hx2:=hg1 dq osq
   clear hg0 hg1
   generalize Sort.grow (redrawn wr dq) osq=w2 at hx2 ⊢
   go_wp2_with fail
   go_roundg (t4 - (l+1))
   case rel=>exact ⟨l+1,by omega,rfl,by go_num,hx2,HAL.out⟩
   case measure=>omega
  ·obtain rfl:l=t4:=by omega
   have HY:=Lib.hid (HS.out.2 (by simpa using HA.out))
   go_wp2_with fail
   go_ret
   exact ⟨true,rfl,⟨fun _=>HY.out,fun _=>rfl⟩,hxw⟩
attribute [local go_sem] Oper.semAt_some
theorem toList_ne {a b:ByteArray} (h:a≠b):(a.toList == b.toList)=false:=by
 rw [beq_eq_false_iff_ne]
 intro k
 have h2:a.data.toList=b.data.toList:=by rw [←ByteArray.toList_eq,←ByteArray.toList_eq];exact k
 exact h (by cases a;cases b;congr 1;exact Array.toList_inj.1 h2)
structure SamePr (T:Tr) (U:Tr) (p:Nat):Prop where
 name:T.name p=U.name p
 vn:T.vn p=U.vn p
 en:T.en p=U.en p
 v:∀ i,i<T.vn p→T.vname p i=U.vname p i∧T.vinit p i=U.vinit p i
 e:∀ i,i<T.en p→SameEv T p i U p i
def SameTr (T:Tr) (U:Tr):Prop:=T.n=U.n∧∀ p,p<T.n→SamePr T U p
set_option maxHeartbeats 8000000 in
theorem rsametr_any (w : World) (T U : TM) (hT : T.At w) (hU : U.At w) :
    Calls Tryz.prog 14 #[T.val,U.val] w (BoolPost (SameTr T.toTr U.toTr) w):=by
 have HT:=Lib.hid hT
 have HU:=Lib.hid hU
 have hTn:=hT.P.hn
 have hUn:=hU.P.hn
 obtain ⟨ta,hta⟩:∃ z,z=T.a:=⟨_,rfl⟩
 obtain ⟨ua,hua⟩:∃ z,z=U.a:=⟨_,rfl⟩
 obtain ⟨n,hn⟩:∃ z,z=T.n:=⟨_,rfl⟩
 obtain ⟨m,hm⟩:∃ z,z=U.n:=⟨_,rfl⟩
 simp only [TM.val,←hta,←hua,←hn,←hm]
 have HTA:=Lib.hid (And.intro hta hua)
 have HN:=Lib.hid (And.intro hn hm)
 rw [←hn] at hTn
 rw [←hm] at hUn
 clear hT hU hta hua hn hm
 go_enter Tryz.func14,Tryz.ntmps14
 go_upto_region 1 with fail
 refine boxed2 (w:=w) (G:=fun x=>Code.wp _ _ _ _ x) ?_
 intro w1 hx1 hs1 ⟨l0,c0,_,_⟩ ⟨l1,c1,_,_⟩
 have hx11:Ext w1 w1:=Ext.refl _
 clear hs1
 by_cases hnm:n=m
 case neg=>
  have d0:((n:Int) == (m:Int))=false:=by simpa using fun h:(n:Int)=m=>hnm (by omega)
  have d0':(n == m)=false:=by simpa using hnm
  have HNN:=Lib.hid (show ¬SameTr T.toTr U.toTr from fun h=>hnm (by rw [HN.out.1,HN.out.2];exact h.1))
  go_wp2_with fail
  go_ret
  exact ⟨false,rfl,⟨fun h=>(by cases h),fun h=>absurd h HNN.out⟩,hx1⟩
 subst hnm
 have d0:((n:Int) == (n:Int))=true:=by simp
 go_wp2_with fail
 go_loopg [5] n (fun gg v5 wr=>∃ p:Nat,p≤n∧gg=n - p∧v5=.int .i64 p∧Ext w1 wr∧∀ q,q<p→SamePr T.toTr U.toTr q)
 case atStart=>exact ⟨0,by omega,rfl,rfl,hx11,fun m h=>by omega⟩
 case round=>
  obtain ⟨p,hp,rfl,rfl,hx1r,hall⟩:=hrel
  have HA:=Lib.hid hall
  have hxw:=hx1.trans hx1r
  clear hall
  by_cases hlt:p<n
  case neg=>
   obtain rfl:p=n:=by omega
   have HY:=Lib.hid (show SameTr T.toTr U.toTr from ⟨by rw [←HN.out.1,←HN.out.2],fun q hq=>HA.out q (by rw [HN.out.1];exact hq)⟩)
   go_wp2_with fail
   go_ret
   exact ⟨true,rfl,⟨fun _=>HY.out,fun _=>rfl⟩,hxw⟩
  have hlt':(p:Int)<(n:Int):=by omega
  have hpT:p<T.n:=by rw [←HN.out.1];exact hlt
  have hpU:p<U.n:=by rw [←HN.out.2];exact hlt
  obtain rfl:ta=_:=HTA.out.1.trans (HT.out.P.pa (by omega))
  obtain rfl:ua=_:=HTA.out.2.trans (HU.out.P.pa (by omega))
  have pb1:=HT.out.P.pb (by omega)
  have pb2:=HU.out.P.pb (by omega)
  obtain ⟨tn,htn⟩:∃ z,z=T.name p:=⟨_,rfl⟩
  obtain ⟨un,hun⟩:∃ z,z=U.name p:=⟨_,rfl⟩
  obtain ⟨tv,htv⟩:∃ z,z=T.vn p:=⟨_,rfl⟩
  obtain ⟨uv,huv⟩:∃ z,z=U.vn p:=⟨_,rfl⟩
  obtain ⟨te,hte⟩:∃ z,z=T.en p:=⟨_,rfl⟩
  obtain ⟨ue,hue⟩:∃ z,z=U.en p:=⟨_,rfl⟩
  obtain ⟨tva,htva⟩:∃ z,z=T.va p:=⟨_,rfl⟩
  obtain ⟨uva,huva⟩:∃ z,z=U.va p:=⟨_,rfl⟩
  obtain ⟨tea,htea⟩:∃ z,z=T.ea p:=⟨_,rfl⟩
  obtain ⟨uea,huea⟩:∃ z,z=U.ea p:=⟨_,rfl⟩
  have p0:∀ w',Ext w w'→w'.cell? ⟨T.b,T.off+p*3,none⟩=some (.string tn):=fun w' h=>by rw [htn];exact HT.out.P.p0 w' h p hpT
  have p1:∀ w',Ext w w'→w'.cell? ⟨T.b,T.off+p*3+1,none⟩=some (.slice tva tv (T.vc p)):=fun w' h=>by rw [htva,htv];exact HT.out.P.p1 w' h p hpT
  have p2:∀ w',Ext w w'→w'.cell? ⟨T.b,T.off+p*3+2,none⟩=some (.slice tea te (T.ec p)):=fun w' h=>by rw [htea,hte];exact HT.out.P.p2 w' h p hpT
  have q0:∀ w',Ext w w'→w'.cell? ⟨U.b,U.off+p*3,none⟩=some (.string un):=fun w' h=>by rw [hun];exact HU.out.P.p0 w' h p hpU
  have q1:∀ w',Ext w w'→w'.cell? ⟨U.b,U.off+p*3+1,none⟩=some (.slice uva uv (U.vc p)):=fun w' h=>by rw [huva,huv];exact HU.out.P.p1 w' h p hpU
  have q2:∀ w',Ext w w'→w'.cell? ⟨U.b,U.off+p*3+2,none⟩=some (.slice uea ue (U.ec p)):=fun w' h=>by rw [huea,hue];exact HU.out.P.p2 w' h p hpU
  have htv2:=HT.out.V.hv p hpT
  have huv2:=HU.out.V.hv p hpU
  have hte2:=HT.out.E.he p hpT
  have hue2:=HU.out.E.he p hpU
  rw [←htv] at htv2
  rw [←huv] at huv2
  rw [←hte] at hte2
  rw [←hue] at hue2
  have HE:=Lib.hid (And.intro htn (And.intro hun (And.intro htv (And.intro huv (And.intro hte (And.intro hue (And.intro htva (And.intro huva (And.intro htea huea)))))))))
  have hrr:Ext wr wr:=Ext.refl _
  have hx1w:∀ w',Ext wr w'→Ext w w':=fun w' x=>hxw.trans x
  clear htn hun htv huv hte hue htva huva htea huea
  go_upto_region 6 with fail
  go_cut [6,7] (fun s6 s7 wx=>∃ b6 b7,s6=.pointer (some ⟨b6,0,none⟩)∧s7=.pointer (some ⟨b7,0,none⟩)∧Hold wx b6 #[.string tn,.slice tva tv (T.vc p),.slice tea te (T.ec p)]∧Hold wx b7 #[.string un,.slice uva uv (U.vc p),.slice uea ue (U.ec p)]∧Ext wr wx)
  case first=>
   refine wp_region_held_drew (S:=fun w'=>Ext wr w') (by kernel_rfl) (Ext.refl _).drew (fun hHeld=>?_)
   refine hQ 0 (v:=?_) rfl (y:=.inl ⟨by rfl,?_⟩) (h:=?_)
   rotate_left
   ·(intro w' hSw;(try dsimp only at hSw);have hSS:=Ext.refl w';have hS1:=hx1r.trans hSw;go_simp;try with_reducible rfl)
   try simp only [Act.put,zA,zB,zC]
   refine hQ 1 (v:=?_) rfl (y:=.inl ⟨by rfl,?_⟩) (h:=?_)
   rotate_left
   ·(intro w' hSw;(try dsimp only at hSw);have hSS:=Ext.refl w';have hS1:=hx1r.trans hSw;go_simp;try with_reducible rfl)
   try simp only [Act.put,zA,zB,zC]
   refine hQ 2 (v:=?_) rfl (y:=.inl ⟨by rfl,?_⟩) (h:=?_)
   rotate_left
   ·(intro w' hSw;(try dsimp only at hSw);have hSS:=Ext.refl w';have hS1:=hx1r.trans hSw;go_simp;try with_reducible rfl)
   try simp only [Act.put,zA,zB,zC]
   refine hQ 3 (v:=?_) rfl (y:=.inl ⟨by rfl,?_⟩) (h:=?_)
   rotate_left
   ·(intro w' hSw;(try dsimp only at hSw);have hSS:=Ext.refl w';have hS1:=hx1r.trans hSw;go_simp;try with_reducible rfl)
   try simp only [Act.put,zA,zB,zC]
   refine hQ 4 (v:=?_) rfl (y:=.inl ⟨by rfl,?_⟩) (h:=?_)
   rotate_left
   ·(intro w' hSw;(try dsimp only at hSw);have hSS:=Ext.refl w';have hS1:=hx1r.trans hSw;go_simp;try with_reducible rfl)
   try simp only [Act.put,zA,zB,zC]
   refine hQ 5 (v:=?_) rfl (y:=.inl ⟨by rfl,?_⟩) (h:=?_)
   rotate_left
   ·(intro w' hSw;(try dsimp only at hSw);have hSS:=Ext.refl w';have hS1:=hx1r.trans hSw;go_simp;try with_reducible rfl)
   try simp only [Act.put,zA,zB,zC]
   refine hQ 6 (v:=?_) rfl (y:=.inl ⟨by rfl,?_⟩) (h:=?_)
   rotate_left
   ·(intro w' hSw;(try dsimp only at hSw);have hSS:=Ext.refl w';have hS1:=hx1r.trans hSw;go_simp;try with_reducible rfl)
   try simp only [Act.put,zA,zB,zC]
   refine hQ 7 (v:=?_) rfl (y:=.inl ⟨by rfl,?_⟩) (h:=?_)
   rotate_left
   ·(intro w' hSw;(try dsimp only at hSw);have hSS:=Ext.refl w';have hS1:=hx1r.trans hSw;go_simp;try with_reducible rfl)
   try simp only [Act.put,zA,zB,zC]
   refine hQ 8 (v:=?_) rfl (y:=.inl ⟨by rfl,?_⟩) (h:=?_)
   rotate_left
   ·(intro w' hSw;(try dsimp only at hSw);have hSS:=Ext.refl w';have hS1:=hx1r.trans hSw;go_simp;try with_reducible rfl)
   try simp only [Act.put,zA,zB,zC]
   refine hQ 9 (v:=?_) rfl (y:=.inl ⟨by rfl,?_⟩) (h:=?_)
   rotate_left
   ·(intro w' hSw;(try dsimp only at hSw);have hSS:=Ext.refl w';have hS1:=hx1r.trans hSw;go_simp;try with_reducible rfl)
   try simp only [Act.put,zA,zB,zC]
   have hA0:Ext wr wr.drew:=(Ext.refl wr).drew
   refine wpAnyH_ready (rs:=[10,11]) (by kernel_rfl) (by simp) ?_
   refine AllReadyH.cons rfl (fun K hK=>?_) (AllReadyH.cons rfl (fun K hK=>?_) AllReadyH.nil)
   ·skip
    go_simp
    refine hK.out _ _ (hA0.alloc' _) (fun hHeld2=>?_)
    clear hK K
    try simp only [Act.put,zA,zB,zC]
    refine wpAnyH_ready (rs:=[11]) (by kernel_rfl) (by simp) ?_
    refine AllReadyH.cons rfl (fun K hK=>?_) AllReadyH.nil
    go_simp
    refine hK.out _ _ ((hA0.alloc' _).alloc' _) (fun hHeld3=>?_)
    clear hK K
    try simp only [Act.put,zA,zB,zC]
    have hNW:=Hold.new (wr.alloc (.cells #[.string ⟨#[]⟩,.slice none 0 0,.slice none 0 0] 62)) #[.string ⟨#[]⟩,.slice none 0 0,.slice none 0 0] 62
    have k6:Hold ((wr.alloc (.cells #[.string ⟨#[]⟩,.slice none 0 0,.slice none 0 0] 62)).alloc (.cells #[.string ⟨#[]⟩,.slice none 0 0,.slice none 0 0] 62)).drew wr.heap.size #[.string ⟨#[]⟩,.slice none 0 0,.slice none 0 0]:=by simpa using ((Hold.new wr _ _).ext (Ext.alloc _ _)).drew
    have k7:Hold ((wr.alloc (.cells #[.string ⟨#[]⟩,.slice none 0 0,.slice none 0 0] 62)).alloc (.cells #[.string ⟨#[]⟩,.slice none 0 0,.slice none 0 0] 62)).drew (wr.heap.size+1) #[.string ⟨#[]⟩,.slice none 0 0,.slice none 0 0]:=by simpa using hNW.drew
    have hxW:=(((Ext.refl wr).alloc' (.cells #[.string ⟨#[]⟩,.slice none 0 0,.slice none 0 0] 62)).alloc' (.cells #[.string ⟨#[]⟩,.slice none 0 0,.slice none 0 0] 62)).drew
    have h67:wr.heap.size≠(wr.heap.size+1):=by omega
    have hA6:wr.heap.size≤wr.heap.size:=by omega
    have hB7:wr.heap.size≤(wr.heap.size+1):=by omega
    try simp only [World.size_alloc,World.size_drew]
    clear hNW hHeld hHeld2 hHeld3
    generalize ((wr.alloc (.cells #[.string ⟨#[]⟩,.slice none 0 0,.slice none 0 0] 62)).alloc (.cells #[.string ⟨#[]⟩,.slice none 0 0,.slice none 0 0] 62)).drew=W at k6 k7 hxW ⊢
    generalize wr.heap.size+1=b7 at k7 h67 hB7 ⊢
    generalize hb0:wr.heap.size=b6 at k6 h67 ⊢
    obtain ⟨l6,c6,f6,_⟩:=k6.box
    have hWW:Ext W W:=Ext.refl _
    have hA6:wr.heap.size≤b6:=by omega
    have hB7:wr.heap.size≤b7:=by omega
    clear hb0
    have m6:=((Hold.set k6 0 (.string tn)).set 1 (.slice tva tv (T.vc p))).set 2 (.slice tea te (T.ec p))
    have m7:=((Hold.other k7 ⟨b6,0,none⟩ (.string tn) (fun e=>h67 e.symm)).other ⟨b6,1,none⟩ (.slice tva tv (T.vc p)) (fun e=>h67 e.symm)).other ⟨b6,2,none⟩ (.slice tea te (T.ec p)) (fun e=>h67 e.symm)
    have hxW2:=((hxW.setCell (p:=⟨b6,0,none⟩) hA6 (.string tn)).setCell (p:=⟨b6,1,none⟩) hA6 (.slice tva tv (T.vc p))).setCell (p:=⟨b6,2,none⟩) hA6 (.slice tea te (T.ec p))
    refine wpAnyH_ready (rs:=[12]) (by kernel_rfl) (by simp) ?_
    refine AllReadyH.cons rfl (fun K hK=>?_) AllReadyH.nil
    go_simp
    refine hK.out _ _ hxW2 (fun hHeld4=>?_)
    clear hK K
    try simp only [Act.put,zA,zB,zC]
    clear l6 c6 f6 hWW k6 k7 hxW hHeld4
    generalize ((W.setCell ⟨b6,0,none⟩ (.string tn)).setCell ⟨b6,1,none⟩ (.slice tva tv (T.vc p))).setCell ⟨b6,2,none⟩ (.slice tea te (T.ec p))=W2 at m6 m7 hxW2 ⊢
    obtain ⟨l7,c7,f7,_⟩:=m7.box
    have hWW:Ext W2 W2:=Ext.refl _
    have n7:=((Hold.set m7 0 (.string un)).set 1 (.slice uva uv (U.vc p))).set 2 (.slice uea ue (U.ec p))
    have n6:=((Hold.other m6 ⟨b7,0,none⟩ (.string un) h67).other ⟨b7,1,none⟩ (.slice uva uv (U.vc p)) h67).other ⟨b7,2,none⟩ (.slice uea ue (U.ec p)) h67
    have hxW3:=((hxW2.setCell (p:=⟨b7,0,none⟩) hB7 (.string un)).setCell (p:=⟨b7,1,none⟩) hB7 (.slice uva uv (U.vc p))).setCell (p:=⟨b7,2,none⟩) hB7 (.slice uea ue (U.ec p))
    refine wpAnyH_ready (rs:=[13]) (by kernel_rfl) (by simp) ?_
    refine AllReadyH.cons rfl (fun K hK=>?_) AllReadyH.nil
    go_simp
    refine hK.out _ _ hxW3 (fun hHeld5=>?_)
    clear hK K
    try simp only [Act.put,zA,zB,zC]
    refine wpAnyH_done (by kernel_rfl) ?_ _
    go_wp2_with fail
    go_meet
    exact ⟨b6,b7,rfl,rfl,n6,n7,hxW3⟩
   ·skip
    go_simp
    refine hK.out _ _ (hA0.alloc' _) (fun hHeld2=>?_)
    clear hK K
    try simp only [Act.put,zA,zB,zC]
    refine wpAnyH_ready (rs:=[10]) (by kernel_rfl) (by simp) ?_
    refine AllReadyH.cons rfl (fun K hK=>?_) AllReadyH.nil
    go_simp
    refine hK.out _ _ ((hA0.alloc' _).alloc' _) (fun hHeld3=>?_)
    clear hK K
    try simp only [Act.put,zA,zB,zC]
    have hNW:=Hold.new (wr.alloc (.cells #[.string ⟨#[]⟩,.slice none 0 0,.slice none 0 0] 62)) #[.string ⟨#[]⟩,.slice none 0 0,.slice none 0 0] 62
    have k6:Hold ((wr.alloc (.cells #[.string ⟨#[]⟩,.slice none 0 0,.slice none 0 0] 62)).alloc (.cells #[.string ⟨#[]⟩,.slice none 0 0,.slice none 0 0] 62)).drew (wr.heap.size+1) #[.string ⟨#[]⟩,.slice none 0 0,.slice none 0 0]:=by simpa using hNW.drew
    have k7:Hold ((wr.alloc (.cells #[.string ⟨#[]⟩,.slice none 0 0,.slice none 0 0] 62)).alloc (.cells #[.string ⟨#[]⟩,.slice none 0 0,.slice none 0 0] 62)).drew wr.heap.size #[.string ⟨#[]⟩,.slice none 0 0,.slice none 0 0]:=by simpa using ((Hold.new wr _ _).ext (Ext.alloc _ _)).drew
    have hxW:=(((Ext.refl wr).alloc' (.cells #[.string ⟨#[]⟩,.slice none 0 0,.slice none 0 0] 62)).alloc' (.cells #[.string ⟨#[]⟩,.slice none 0 0,.slice none 0 0] 62)).drew
    have h67:(wr.heap.size+1)≠wr.heap.size:=by omega
    have hA6:wr.heap.size≤(wr.heap.size+1):=by omega
    have hB7:wr.heap.size≤wr.heap.size:=by omega
    try simp only [World.size_alloc,World.size_drew]
    clear hNW hHeld hHeld2 hHeld3
    generalize ((wr.alloc (.cells #[.string ⟨#[]⟩,.slice none 0 0,.slice none 0 0] 62)).alloc (.cells #[.string ⟨#[]⟩,.slice none 0 0,.slice none 0 0] 62)).drew=W at k6 k7 hxW ⊢
    generalize wr.heap.size+1=b6 at k6 h67 hA6 ⊢
    generalize hb0:wr.heap.size=b7 at k7 h67 ⊢
    obtain ⟨l6,c6,f6,_⟩:=k6.box
    have hWW:Ext W W:=Ext.refl _
    have hA6:wr.heap.size≤b6:=by omega
    have hB7:wr.heap.size≤b7:=by omega
    clear hb0
    have m6:=((Hold.set k6 0 (.string tn)).set 1 (.slice tva tv (T.vc p))).set 2 (.slice tea te (T.ec p))
    have m7:=((Hold.other k7 ⟨b6,0,none⟩ (.string tn) (fun e=>h67 e.symm)).other ⟨b6,1,none⟩ (.slice tva tv (T.vc p)) (fun e=>h67 e.symm)).other ⟨b6,2,none⟩ (.slice tea te (T.ec p)) (fun e=>h67 e.symm)
    have hxW2:=((hxW.setCell (p:=⟨b6,0,none⟩) hA6 (.string tn)).setCell (p:=⟨b6,1,none⟩) hA6 (.slice tva tv (T.vc p))).setCell (p:=⟨b6,2,none⟩) hA6 (.slice tea te (T.ec p))
    refine wpAnyH_ready (rs:=[12]) (by kernel_rfl) (by simp) ?_
    refine AllReadyH.cons rfl (fun K hK=>?_) AllReadyH.nil
    go_simp
    refine hK.out _ _ hxW2 (fun hHeld4=>?_)
    clear hK K
    try simp only [Act.put,zA,zB,zC]
    clear l6 c6 f6 hWW k6 k7 hxW hHeld4
    generalize ((W.setCell ⟨b6,0,none⟩ (.string tn)).setCell ⟨b6,1,none⟩ (.slice tva tv (T.vc p))).setCell ⟨b6,2,none⟩ (.slice tea te (T.ec p))=W2 at m6 m7 hxW2 ⊢
    obtain ⟨l7,c7,f7,_⟩:=m7.box
    have hWW:Ext W2 W2:=Ext.refl _
    have n7:=((Hold.set m7 0 (.string un)).set 1 (.slice uva uv (U.vc p))).set 2 (.slice uea ue (U.ec p))
    have n6:=((Hold.other m6 ⟨b7,0,none⟩ (.string un) h67).other ⟨b7,1,none⟩ (.slice uva uv (U.vc p)) h67).other ⟨b7,2,none⟩ (.slice uea ue (U.ec p)) h67
    have hxW3:=((hxW2.setCell (p:=⟨b7,0,none⟩) hB7 (.string un)).setCell (p:=⟨b7,1,none⟩) hB7 (.slice uva uv (U.vc p))).setCell (p:=⟨b7,2,none⟩) hB7 (.slice uea ue (U.ec p))
    refine wpAnyH_ready (rs:=[13]) (by kernel_rfl) (by simp) ?_
    refine AllReadyH.cons rfl (fun K hK=>?_) AllReadyH.nil
    go_simp
    refine hK.out _ _ hxW3 (fun hHeld5=>?_)
    clear hK K
    try simp only [Act.put,zA,zB,zC]
    refine wpAnyH_done (by kernel_rfl) ?_ _
    go_wp2_with fail
    go_meet
    exact ⟨b6,b7,rfl,rfl,n6,n7,hxW3⟩
  case rest=>
   obtain ⟨b6,b7,rfl,rfl,k6,k7,hxc⟩:=hcut
   obtain ⟨l6,c6,_,_⟩:=k6.box
   obtain ⟨l7,c7,_,_⟩:=k7.box
   have hcc:Ext wc wc:=Ext.refl _
   have hx1c:=hx1r.trans hxc
   have hxwc:=hx1.trans hx1c
   clear p0 p1 p2 q0 q1 q2 pb1 pb2 k6 k7 hx1w hrr hxw
   by_cases e0:tn=un
   case neg=>
    have d1:=toList_ne e0
    have HNN:=Lib.hid (show ¬SameTr T.toTr U.toTr from fun h=>e0 (by rw [HE.out.1,HE.out.2.1];exact (h.2 p hpT).name))
    go_wp2_with fail
    go_ret
    exact ⟨false,rfl,⟨fun h=>(by cases h),fun h=>absurd h HNN.out⟩,hxwc⟩
   subst e0
   have d1:(tn.toList == tn.toList)=true:=by simp
   by_cases e1:tv=uv
   case neg=>
    have d2:((tv:Int) == (uv:Int))=false:=by simpa using fun h:(tv:Int)=uv=>e1 (by omega)
    have d2':(tv == uv)=false:=by simpa using e1
    have d2'':((tv:Int) != (uv:Int))=true:=by simp;omega
    have HNN:=Lib.hid (show ¬SameTr T.toTr U.toTr from fun h=>e1 (by rw [HE.out.2.2.1,HE.out.2.2.2.1];exact (h.2 p hpT).vn))
    go_wp2_with fail
    go_ret
    exact ⟨false,rfl,⟨fun h=>(by cases h),fun h=>absurd h HNN.out⟩,hxwc⟩
   subst e1
   have d2:((tv:Int) == (tv:Int))=true:=by simp
   by_cases e2:te=ue
   case neg=>
    have d3:((te:Int) == (ue:Int))=false:=by simpa using fun h:(te:Int)=ue=>e2 (by omega)
    have d3':(te == ue)=false:=by simpa using e2
    have d3'':((te:Int) != (ue:Int))=true:=by simp;omega
    have HNN:=Lib.hid (show ¬SameTr T.toTr U.toTr from fun h=>e2 (by rw [HE.out.2.2.2.2.1,HE.out.2.2.2.2.2.1];exact (h.2 p hpT).en))
    go_wp2_with fail
    go_ret
    exact ⟨false,rfl,⟨fun h=>(by cases h),fun h=>absurd h HNN.out⟩,hxwc⟩
   subst e2
   have d3:((te:Int) == (te:Int))=true:=by simp
   go_wp2_with fail
   go_loopg [8] tv (fun gg v8 wi=>∃ i:Nat,i≤tv∧gg=tv - i∧v8=.int .i64 i∧Ext wc wi∧∀ k,k<i→T.vname p k=U.vname p k∧T.vinit p k=U.vinit p k)
   case atStart=>exact ⟨0,by omega,rfl,rfl,hcc,fun m h=>by omega⟩
   case round=>
    rename World=>wi
    obtain ⟨i,hi,rfl,rfl,hxi,hall⟩:=hrel
    have HB:=Lib.hid hall
    have hxwi:=hxwc.trans hxi
    have hx1i:=hx1c.trans hxi
    clear hall
    by_cases hli:i<tv
    ·have hli':(i:Int)<(tv:Int):=by omega
     have hiT:i<T.vn p:=by rw [←HE.out.2.2.1];exact hli
     have hiU:i<U.vn p:=by rw [←HE.out.2.2.2.1];exact hli
     obtain rfl:tva=_:=HE.out.2.2.2.2.2.2.1.trans (HT.out.V.va p hpT (by omega))
     obtain rfl:uva=_:=HE.out.2.2.2.2.2.2.2.1.trans (HU.out.V.va p hpU (by omega))
     have pb1:=HT.out.V.vb p hpT (by omega)
     have pb2:=HU.out.V.vb p hpU (by omega)
     obtain ⟨x0,hx0⟩:∃ z,z=T.vname p i:=⟨_,rfl⟩
     obtain ⟨x1,hx1'⟩:∃ z,z=T.vinit p i:=⟨_,rfl⟩
     obtain ⟨y0,hy0⟩:∃ z,z=U.vname p i:=⟨_,rfl⟩
     obtain ⟨y1,hy1⟩:∃ z,z=U.vinit p i:=⟨_,rfl⟩
     have p0:∀ w',Ext w w'→w'.cell? ⟨T.vb p,T.vo p+i*2,none⟩=some (.string x0):=fun w' h=>by rw [hx0];exact HT.out.V.v0 w' h p i hpT hiT
     have p1:∀ w',Ext w w'→w'.cell? ⟨T.vb p,T.vo p+i*2+1,none⟩=some (.int .i64 x1):=fun w' h=>by rw [hx1'];exact HT.out.V.v1 w' h p i hpT hiT
     have q0:∀ w',Ext w w'→w'.cell? ⟨U.vb p,U.vo p+i*2,none⟩=some (.string y0):=fun w' h=>by rw [hy0];exact HU.out.V.v0 w' h p i hpU hiU
     have q1:∀ w',Ext w w'→w'.cell? ⟨U.vb p,U.vo p+i*2+1,none⟩=some (.int .i64 y1):=fun w' h=>by rw [hy1];exact HU.out.V.v1 w' h p i hpU hiU
     have HX:=Lib.hid (And.intro hx0 (And.intro hx1' (And.intro hy0 hy1)))
     have HII:=Lib.hid (And.intro hiT hiU)
     clear hx0 hx1' hy0 hy1 hiT hiU
     have hg0:∀ d os,Ext w (Sort.grow (redrawn wi d) os):=fun d os=>hxwi.trans (below_regrown wi d os)
     have hg1:∀ d os,Ext w1 (Sort.grow (redrawn wi d) os):=fun d os=>hx1i.trans (below_regrown wi d os)
     have hg6:∀ d os,Ext wc (Sort.grow (redrawn wi d) os):=fun d os=>hxi.trans (below_regrown wi d os)
     by_cases f0:x0=y0
     case neg=>
      have d5:=toList_ne f0
      go_upto_region 12 with fail
      refine wp_region_quiet_below (by kernel_rfl) (by kernel_rfl) ?_
      repeat (go_big_quiet_step (fail))
      refine wpQuiet_nil ?_
      intro _ hw'
      obtain ⟨⟨dq,osq⟩,hw''⟩:=hw'
      subst hw''
      have hx2:=hg6 dq osq
      clear hg0 hg1 hg6
      generalize Sort.grow (redrawn wi dq) osq=w2 at hx2 ⊢
      have HNN:=Lib.hid (show ¬SameTr T.toTr U.toTr from fun h=>f0 (by rw [HX.out.1,HX.out.2.2.1];exact ((h.2 p hpT).v i HII.out.1).1))
      go_wp2_with fail
      go_ret
      exact ⟨false,rfl,⟨fun h=>(by cases h),fun h=>absurd h HNN.out⟩,(hxwc.trans hx2)⟩
     subst f0
     have d5:(x0.toList == x0.toList)=true:=by simp
     by_cases f1:x1=y1
     case neg=>
      have d6:(x1 == y1)=false:=by simpa using f1
      go_upto_region 12 with fail
      refine wp_region_quiet_below (by kernel_rfl) (by kernel_rfl) ?_
      repeat (go_big_quiet_step (fail))
      refine wpQuiet_nil ?_
      intro _ hw'
      obtain ⟨⟨dq,osq⟩,hw''⟩:=hw'
      subst hw''
      have hx2:=hg6 dq osq
      clear hg0 hg1 hg6
      generalize Sort.grow (redrawn wi dq) osq=w2 at hx2 ⊢
      have HNN:=Lib.hid (show ¬SameTr T.toTr U.toTr from fun h=>f1 (by rw [HX.out.2.1,HX.out.2.2.2];exact ((h.2 p hpT).v i HII.out.1).2))
      go_wp2_with fail
      go_ret
      exact ⟨false,rfl,⟨fun h=>(by cases h),fun h=>absurd h HNN.out⟩,(hxwc.trans hx2)⟩
     subst f1
     have d6:(x1 == x1)=true:=by simp
     have HAL:=Lib.hid (show ∀ m,m<i+1→T.vname p m=U.vname p m∧T.vinit p m=U.vinit p m from fun m hm=>by
      by_cases e:m=i
      ·subst e;exact ⟨by rw [←HX.out.1,←HX.out.2.2.1],by rw [←HX.out.2.1,←HX.out.2.2.2]⟩
      ·exact HB.out m (by omega))
     go_upto_region 12 with fail
     refine wp_region_quiet_below (by kernel_rfl) (by kernel_rfl) ?_
     repeat (go_big_quiet_step (fail))
     refine wpQuiet_nil ?_
     intro _ hw'
     obtain ⟨⟨dq,osq⟩,hw''⟩:=hw'
     subst hw''
     have hx2:=hg6 dq osq
     clear hg0 hg1 hg6
     generalize Sort.grow (redrawn wi dq) osq=w2 at hx2 ⊢
     go_wp2_with fail
     go_roundg (tv - (i+1))
     case rel=>exact ⟨i+1,by omega,rfl,by go_num,hx2,HAL.out⟩
     case measure=>omega
    ·obtain rfl:i=tv:=by omega
     have HVS:=Lib.hid (show ∀ k,k<T.vn p→T.vname p k=U.vname p k∧T.vinit p k=U.vinit p k from fun k hk=>HB.out k (by rw [HE.out.2.2.1];exact hk))
     clear HB
     go_wp2_with fail
     go_loopg [9] te (fun gg v9 wj=>∃ j:Nat,j≤te∧gg=te - j∧v9=.int .i64 j∧Ext wc wj∧∀ k,k<j→SameEv T.toTr p k U.toTr p k)
     case atStart=>exact ⟨0,by omega,rfl,rfl,hxi,fun m h=>by omega⟩
     case round=>
      clear hxi hxwi hx1i
      rename World=>wj
      obtain ⟨j,hj,rfl,rfl,hxi,hall⟩:=hrel
      have HB:=Lib.hid hall
      have hxwi:=hxwc.trans hxi
      have hx1i:=hx1c.trans hxi
      clear hall
      by_cases hlj:j<te
      case neg=>
       obtain rfl:j=te:=by omega
       have HP:=Lib.hid (show ∀ q,q<p+1→SamePr T.toTr U.toTr q from fun q hq=>by
        by_cases e:q=p
        ·subst e
         exact ⟨by rw [←HE.out.1,←HE.out.2.1],by rw [←HE.out.2.2.1,←HE.out.2.2.2.1],by rw [←HE.out.2.2.2.2.1,←HE.out.2.2.2.2.2.1],HVS.out,fun i hi=>HB.out i (by rw [HE.out.2.2.2.2.1];exact hi)⟩
        ·exact HA.out q (by omega))
       go_wp2_with fail
       go_roundg (n - (p+1))
       case rel=>exact ⟨p+1,by omega,rfl,by go_num,hx1i,HP.out⟩
       case measure=>omega
      have hlj':(j:Int)<(te:Int):=by omega
      have hjT:j<T.en p:=by rw [←HE.out.2.2.2.2.1];exact hlj
      have hjU:j<U.en p:=by rw [←HE.out.2.2.2.2.2.1];exact hlj
      obtain rfl:tea=_:=HE.out.2.2.2.2.2.2.2.2.1.trans (HT.out.E.ea p hpT (by omega))
      obtain rfl:uea=_:=HE.out.2.2.2.2.2.2.2.2.2.trans (HU.out.E.ea p hpU (by omega))
      have pb1:=HT.out.E.eb p hpT (by omega)
      have pb2:=HU.out.E.eb p hpU (by omega)
      obtain ⟨bb,hbb⟩:=exists_bool (SameEv T.toTr p j U.toTr p j)
      have hcl:=fun W (x:Ext w W)=>bool_fix (rsameev_any W T U (HT.out.ext x) (HU.out.ext x) p j p j hpT hjT hpU hjU) hbb
      have HBB:=Lib.hid hbb
      have p0:=fun w' (h:Ext w w')=>HT.out.E.e0 w' h p j hpT hjT
      have p1:=fun w' (h:Ext w w')=>HT.out.E.e1 w' h p j hpT hjT
      have p2:=fun w' (h:Ext w w')=>HT.out.E.e2 w' h p j hpT hjT
      have p3:=fun w' (h:Ext w w')=>HT.out.E.e3 w' h p j hpT hjT
      have p4:=fun w' (h:Ext w w')=>HT.out.E.e4 w' h p j hpT hjT
      have q0:=fun w' (h:Ext w w')=>HU.out.E.e0 w' h p j hpU hjU
      have q1:=fun w' (h:Ext w w')=>HU.out.E.e1 w' h p j hpU hjU
      have q2:=fun w' (h:Ext w w')=>HU.out.E.e2 w' h p j hpU hjU
      have q3:=fun w' (h:Ext w w')=>HU.out.E.e3 w' h p j hpU hjU
      have q4:=fun w' (h:Ext w w')=>HU.out.E.e4 w' h p j hpU hjU
      simp only [TM.ev] at hcl
      have HII:=Lib.hid (And.intro hjT hjU)
      clear hbb hjT hjU
      have hg0:∀ d os,Ext w (Sort.grow (redrawn wj d) os):=fun d os=>hxwi.trans (below_regrown wj d os)
      have hg1:∀ d os,Ext w1 (Sort.grow (redrawn wj d) os):=fun d os=>hx1i.trans (below_regrown wj d os)
      have hg6:∀ d os,Ext wc (Sort.grow (redrawn wj d) os):=fun d os=>hxi.trans (below_regrown wj d os)
      cases bb with
      | false =>
       go_upto_region 17 with fail
       refine wp_region_quiet_below (by kernel_rfl) (by kernel_rfl) ?_
       repeat (go_big_quiet_step (exact Calls.regrown_of (hcl _ (hg0 _ _))))
       refine wpQuiet_nil ?_
       intro _ hw'
       obtain ⟨⟨dq,osq⟩,hw''⟩:=hw'
       subst hw''
       have hx2:=hg6 dq osq
       clear hg0 hg1 hg6 hcl p0 p1 p2 p3 p4 q0 q1 q2 q3 q4
       generalize Sort.grow (redrawn wj dq) osq=w2 at hx2 ⊢
       have HNN:=Lib.hid (show ¬SameTr T.toTr U.toTr from fun h=>absurd (HBB.out.2 ((h.2 p hpT).e j HII.out.1)) (by simp))
       go_wp2_with fail
       go_ret
       exact ⟨false,rfl,⟨fun h=>(by cases h),fun h=>absurd h HNN.out⟩,(hxwc.trans hx2)⟩
      | true =>
       have HAL:=Lib.hid (show ∀ k,k<j+1→SameEv T.toTr p k U.toTr p k from fun k hk=>by
        by_cases e:k=j
        ·subst e;exact HBB.out.1 rfl
        ·exact HB.out k (by omega))
       go_upto_region 17 with fail
       refine wp_region_quiet_below (by kernel_rfl) (by kernel_rfl) ?_
       repeat (go_big_quiet_step (exact Calls.regrown_of (hcl _ (hg0 _ _))))
       refine wpQuiet_nil ?_
       intro _ hw'
       obtain ⟨⟨dq,osq⟩,hw''⟩:=hw'
       subst hw''
       have hx2:=hg6 dq osq
       clear hg0 hg1 hg6 hcl p0 p1 p2 p3 p4 q0 q1 q2 q3 q4
       generalize Sort.grow (redrawn wj dq) osq=w2 at hx2 ⊢
       go_wp2_with fail
       go_roundg (te - (j+1))
       case rel=>exact ⟨j+1,by omega,rfl,by go_num,hx2,HAL.out⟩
       case measure=>omega
end Go.Proofs.YtkhgpockmaghjaaGreat
