/- Contracts and laws in plain Lean for RApp: group T38. -/
import Derived.Test.YtlfdfkbmollaaaaGreatDoorT36
import Derived.Test.YtlfdfkbmollaaaaGreatDoorT20
import Derived.Test.YtlfdfkbmollaaaaGreatDoorT34
set_option maxRecDepth 100000
namespace Go.Proofs.YtlfdfkbmollaaaaGreatDoor
open Go.RowKit Go.Shelf
attribute [local go_sem] Oper.semAt_some
def fn (l:List Nat):Nat→Nat:=fun p=>l.getD p 0
theorem fn_ext {l m:List Nat} (hl:l.length=m.length) (h:∀ p,p<l.length→fn l p=fn m p):l=m:=by
 refine List.ext_getElem hl fun p h1 h2=>?_
 have h3:=h p h1
 unfold fn at h3
 rw [List.getD_eq_getElem?_getD,List.getD_eq_getElem?_getD,List.getElem?_eq_getElem h1,List.getElem?_eq_getElem h2] at h3
 exact h3
def rowOf (n:Nat) (c:Nat→Nat):List Nat:=(List.range n).map c
theorem rowOf_len (n:Nat) (c:Nat→Nat):(rowOf n c).length=n:=by simp [rowOf]
theorem fn_rowOf {n:Nat} {c:Nat→Nat} {p:Nat} (h:p<n):fn (rowOf n c) p=c p:=by simp [fn,rowOf,h]
structure Row where
 l:List Nat
 a:Option Addr
 g:Nat
 o:Nat
 c:Nat
def Row.val (r:Row):Value:=.slice r.a r.l.length r.c
def Row.At (r:Row) (w:World):Prop:=NumAt w r.l.length r.a r.g r.o (natV (fn r.l))
theorem Row.At.ext {r:Row} {w w':World} (h:r.At w) (x:Ext w w'):r.At w':=NumAt.ext h x
def RowsQ (w:World) (base:Nat) (v:Value) (R:List Row):Prop:=Que w base 1 v R.length (R.map Row.val)∧∀ r∈R,r.At w
theorem RowsQ.ext {w w':World} {base:Nat} {v:Value} {R:List Row} (h:RowsQ w base v R) (x:Ext w w'):RowsQ w' base v R:=⟨h.1.ext x,fun r hr=>(h.2 r hr).ext x⟩
theorem RowsQ.mono {w:World} {base base':Nat} {v:Value} {R:List Row} (h:RowsQ w base v R) (hb:base'≤base):RowsQ w base' v R:=⟨h.1.mono hb,h.2⟩
theorem RowsQ.nil (w:World) (base:Nat):RowsQ w base (.slice none 0 0) []:=⟨Que.nil w base 1,fun _ h=>by cases h⟩
theorem RowsQ.get {w : World} {base : Nat} {v : Value} {R : List Row} (h : RowsQ w base v R) :
    ∃ a g o c,v=.slice a R.length c∧R.length≤c∧(0<R.length→a=some ⟨g,o,none⟩∧base≤g∧g<w.heap.size)∧∀ k (hk:k<R.length) w',Ext w w'→w'.cell? ⟨g,o+k,none⟩=some (.slice R[k].a R[k].l.length R[k].c):=by
 obtain ⟨a,g,o,c,h1,h2,h3,h4⟩:=Que.cells1 h.1
 refine ⟨a,g,o,c,h1,h2,h3,fun k hk w' x=>?_⟩
 have h5:=h4 k hk
 rw [List.getElem?_map,List.getElem?_eq_getElem hk] at h5
 exact x.cell h5
def lexP (n:Nat) (u v:Nat→Nat):Prop:=∃ p,p<n∧(∀ q,q<p→u q=v q)∧u p<v p
def befP (n:Nat) (u v:Nat→Nat):Prop:=tot u n<tot v n∨(tot u n=tot v n∧lexP n u v)
theorem lexP_irrefl (n:Nat) (u:Nat→Nat):¬lexP n u u:=fun ⟨_,_,_,h⟩=>absurd h (Nat.lt_irrefl _)
theorem lexP_trans {n:Nat} {u v w:Nat→Nat} (h:lexP n u v) (k:lexP n v w):lexP n u w:=by
 obtain ⟨p,hp,h1,h2⟩:=h
 obtain ⟨q,hq,k1,k2⟩:=k
 rcases Nat.lt_trichotomy p q with e | e | e
 ·exact ⟨p,hp,fun r hr=>(h1 r hr).trans (k1 r (by omega)),by rw [←k1 p e];exact h2⟩
 ·subst e;exact ⟨p,hp,fun r hr=>(h1 r hr).trans (k1 r hr),by omega⟩
 ·exact ⟨q,hq,fun r hr=>(h1 r (by omega)).trans (k1 r hr),by rw [h1 q e];exact k2⟩
theorem first_diff {u v:Nat→Nat}:∀ n,(∀ q,q<n→u q=v q)∨∃ p,p<n∧(∀ q,q<p→u q=v q)∧u p≠v p
 | 0 => .inl fun q h => by omega
 | n+1 => by
  rcases first_diff (u:=u) (v:=v) n with h | ⟨p,hp,h1,h2⟩
  ·by_cases e:u n=v n
   ·exact .inl fun q hq => by
      by_cases e2:q=n
      ·subst e2;exact e
      ·exact h q (by omega)
   ·exact .inr ⟨n,by omega,h,e⟩
  ·exact .inr ⟨p,by omega,h1,h2⟩
theorem lexP_total {n:Nat} {u v:Nat→Nat} (h:¬ ∀ q,q<n→u q=v q):lexP n u v∨lexP n v u:=by
 rcases first_diff (u:=u) (v:=v) n with k | ⟨p,hp,h1,h2⟩
 ·exact absurd k h
 ·rcases Nat.lt_or_gt_of_ne h2 with e | e
  ·exact .inl ⟨p,hp,h1,e⟩
  ·exact .inr ⟨p,hp,fun q hq=>(h1 q hq).symm,e⟩
theorem befP_irrefl (n:Nat) (u:Nat→Nat):¬befP n u u:=by
 rintro (h | ⟨_,h⟩)
 ·omega
 ·exact lexP_irrefl n u h
theorem befP_trans {n:Nat} {u v w:Nat→Nat} (h:befP n u v) (k:befP n v w):befP n u w:=by
 rcases h with h | ⟨h,h'⟩ <;> rcases k with k | ⟨k,k'⟩
 ·exact .inl (by omega)
 ·exact .inl (by omega)
 ·exact .inl (by omega)
 ·exact .inr ⟨by omega,lexP_trans h' k'⟩
theorem befP_total {n:Nat} {u v:Nat→Nat} (h:¬ ∀ q,q<n→u q=v q):befP n u v∨befP n v u:=by
 rcases Nat.lt_trichotomy (tot u n) (tot v n) with e | e | e
 ·exact .inl (.inl e)
 ·rcases lexP_total h with k | k
  ·exact .inl (.inr ⟨e,k⟩)
  ·exact .inr (.inr ⟨e.symm,k⟩)
 ·exact .inr (.inl e)
set_option maxHeartbeats 1000000 in
theorem rsame_any (w : World) (a1 a2 : Option Addr) (g1 o1 g2 o2 n m c1 c2 : Nat) (u v : Nat → Int) (h1 : NumAt w n a1 g1 o1 u) (h2 : NumAt w m a2 g2 o2 v) :
    Calls Tryz.prog 126 #[.slice a1 n c1,.slice a2 m c2] w (BoolPost (EqL n m u v) w):=by
 have hn1:=h1.hn
 have hn2:=h2.hn
 have H1:=Lib.hid h1
 have H2:=Lib.hid h2
 have hww:Ext w w:=Ext.refl _
 clear h1 h2
 go_enter Tryz.func126,Tryz.ntmps126
 by_cases hnm:n=m
 ·subst hnm
  have d0:((n:Int) == (n:Int))=true:=by simp
  go_wp2_with fail
  go_loopg [5] n (fun gg v5 wr=>∃ k:Nat,k≤n∧gg=n - k∧v5=.int .i64 k∧Ext w wr∧∀ i,i<k→u i=v i)
  case atStart=>exact ⟨0,by omega,rfl,rfl,hww,fun i h=>by omega⟩
  case round=>
   obtain ⟨k,hk,rfl,rfl,hxr,hall⟩:=hrel
   have HA:=Lib.hid hall
   clear hall
   by_cases hlt:k<n
   ·have hlt':(k:Int)<(n:Int):=by omega
    obtain rfl:=H1.out.pa (by omega)
    obtain rfl:=H2.out.pa (by omega)
    have pb1:∀ w',Ext w w'→g1<w'.heap.size:=fun w' x=>Nat.lt_of_lt_of_le (H1.out.pb (by omega)) x.le
    have pb2:∀ w',Ext w w'→g2<w'.heap.size:=fun w' x=>Nat.lt_of_lt_of_le (H2.out.pb (by omega)) x.le
    obtain ⟨x,hx⟩:∃ x,x=u k:=⟨_,rfl⟩
    obtain ⟨y,hy⟩:∃ y,y=v k:=⟨_,rfl⟩
    have p1:∀ w',Ext w w'→w'.cell? ⟨g1,o1+k,none⟩=some (.int .i64 x):=fun w' h=>by rw [hx];exact h.cell (H1.out.c k hlt)
    have q1:∀ w',Ext w w'→w'.cell? ⟨g2,o2+k,none⟩=some (.int .i64 y):=fun w' h=>by rw [hy];exact h.cell (H2.out.c k hlt)
    have HX:=Lib.hid (And.intro hx hy)
    clear hx hy
    by_cases e:x=y
    ·subst e
     have d1:(x == x)=true:=by simp
     go_upto_region 6 with fail
     go_quiet (fail)
     have hq:=hxr.drewN nq
     go_wp2_with fail
     go_roundg (n - (k+1))
     case rel=>exact ⟨k+1,by omega,rfl,by go_num,hq,fun i hi=>by
      by_cases e:i=k
      ·subst e;rw [←HX.out.1,←HX.out.2]
      ·exact HA.out i (by omega)⟩
     case measure=>omega
    ·have d1:(x == y)=false:=by simpa using e
     go_upto_region 6 with fail
     go_quiet (fail)
     have hq:=hxr.drewN nq
     go_wp2_with fail
     go_ret
     exact ⟨false,rfl,⟨fun h=>(by cases h),fun h=>absurd (h.2 k hlt) (by rw [←HX.out.1,←HX.out.2];exact e)⟩,hq⟩
   ·obtain rfl:k=n:=by omega
    go_wp2_with fail
    go_ret
    exact ⟨true,rfl,⟨fun _=>⟨rfl,HA.out⟩,fun _=>rfl⟩,hxr⟩
 ·have d0:((n:Int) == (m:Int))=false:=by simpa using fun h:(n:Int)=m=>hnm (by omega)
  have d0':(n == m)=false:=by simpa using hnm
  go_wp2_with fail
  go_ret
  exact ⟨false,rfl,⟨fun h=>(by cases h),fun h=>absurd h.1 hnm⟩,hww⟩
set_option maxHeartbeats 1000000 in
theorem rsize_any (w : World) (a : Option Addr) (g o n c : Nat) (u : Nat → Nat) (h1 : NumAt w n a g o (natV u)) (hs : ∀ p, p ≤ n → tot u p ≤ 100000) :
    Calls Tryz.prog 155 #[.slice a n c] w fun e w'=>e=.returned (.int .i64 (tot u n:Nat))∧Ext w w':=by
 have hn1:=h1.hn
 have H1:=Lib.hid h1
 have HS:=Lib.hid hs
 have hww:Ext w w:=Ext.refl _
 clear h1 hs
 go_enter Tryz.func155,Tryz.ntmps155
 go_wp2_with fail
 go_loopg [3,4] n (fun gg v3 v4 wr=>∃ k:Nat,k≤n∧gg=n - k∧v4=.int .i64 k∧v3=.int .i64 (tot u k:Nat)∧Ext w wr)
 case atStart=>exact ⟨0,by omega,rfl,rfl,rfl,hww⟩
 case round=>
  obtain ⟨k,hk,rfl,rfl,rfl,hxr⟩:=hrel
  by_cases hlt:k<n
  ·have hlt':(k:Int)<(n:Int):=by omega
   obtain rfl:=H1.out.pa (by omega)
   have pb1:∀ w',Ext w w'→g<w'.heap.size:=fun w' x=>Nat.lt_of_lt_of_le (H1.out.pb (by omega)) x.le
   obtain ⟨x,hx⟩:∃ x,x=u k:=⟨_,rfl⟩
   have p1:∀ w',Ext w w'→w'.cell? ⟨g,o+k,none⟩=some (.int .i64 (x:Int)):=fun w' h=>by rw [hx];exact h.cell (H1.out.c k hlt)
   have h2:=HS.out (k+1) (by omega)
   have h3:tot u (k+1)=tot u k+x:=by rw [hx];rfl
   have H3:=Lib.hid h3
   obtain ⟨s,hs⟩:∃ s,s=tot u k:=⟨_,rfl⟩
   rw [←hs] at H3 h3 ⊢
   have hw1:IntKind.i64.wrap ((s:Int)+(x:Int))=((s+x:Nat):Int):=by rw [IntWalk.i64_in _ (by omega)];omega
   clear hx h2 h3 hs
   go_wp2_with fail
   go_roundg (n - (k+1))
   case rel=>exact ⟨k+1,by omega,rfl,by go_num,congrArg (Value.int .i64) (by rw [H3.out];omega),hxr⟩
   case measure=>omega
  ·obtain rfl:k=n:=by omega
   go_wp2_with fail
   go_ret
   exact ⟨rfl,hxr⟩
set_option maxHeartbeats 1000000 in
theorem rbef_any (w : World) (a1 a2 : Option Addr) (g1 o1 g2 o2 n c1 c2 : Nat) (u v : Nat → Nat) (h1 : NumAt w n a1 g1 o1 (natV u)) (h2 : NumAt w n a2 g2 o2 (natV v)) (hs1 : ∀ p, p ≤ n → tot u p ≤ 100000) (hs2 : ∀ p, p ≤ n → tot v p ≤ 100000) :
    Calls Tryz.prog 121 #[.slice a1 n c1,.slice a2 n c2] w (BoolPost (befP n u v) w):=by
 have hn1:=h1.hn
 have S1:=Lib.hid (fun W (x:Ext w W)=>rsize_any W a1 g1 o1 n c1 u (h1.ext x) hs1)
 have S2:=Lib.hid (fun W (x:Ext w W)=>rsize_any W a2 g2 o2 n c2 v (h2.ext x) hs2)
 have H1:=Lib.hid h1
 have H2:=Lib.hid h2
 have hww:Ext w w:=Ext.refl _
 obtain ⟨tu,htu⟩:∃ t,t=tot u n:=⟨_,rfl⟩
 obtain ⟨tv,htv⟩:∃ t,t=tot v n:=⟨_,rfl⟩
 have HB:=Lib.hid (show befP n u v↔tu<tv∨(tu=tv∧lexP n u v) from by rw [htu,htv];rfl)
 rw [←htu] at S1
 rw [←htv] at S2
 clear h1 h2 hs1 hs2 htu htv
 go_enter Tryz.func121,Tryz.ntmps121
 go_wp2_with fail
 go_at_call 155
 refine (S1.out w hww).mono ?_
 rintro e wa ⟨rfl,hxa⟩
 go_wp2_with fail
 go_at_call 155
 refine (S2.out wa hxa).mono ?_
 rintro e wb ⟨rfl,hxb'⟩
 have hxb:=hxa.trans hxb'
 by_cases ht:tu=tv
 ·subst ht
  have d0:((tu:Int) == (tu:Int))=true:=by simp
  clear hxa hxb'
  go_wp2_with fail
  go_loopg [5] n (fun gg v5 wr=>∃ k:Nat,k≤n∧gg=n - k∧v5=.int .i64 k∧Ext w wr∧∀ i,i<k→u i=v i)
  case atStart=>exact ⟨0,by omega,rfl,rfl,hxb,fun i h=>by omega⟩
  case round=>
   obtain ⟨k,hk,rfl,rfl,hxr,hall⟩:=hrel
   have HA:=Lib.hid hall
   clear hall
   by_cases hlt:k<n
   ·have hlt':(k:Int)<(n:Int):=by omega
    obtain rfl:=H1.out.pa (by omega)
    obtain rfl:=H2.out.pa (by omega)
    have pb1:∀ w',Ext w w'→g1<w'.heap.size:=fun w' x=>Nat.lt_of_lt_of_le (H1.out.pb (by omega)) x.le
    have pb2:∀ w',Ext w w'→g2<w'.heap.size:=fun w' x=>Nat.lt_of_lt_of_le (H2.out.pb (by omega)) x.le
    obtain ⟨x,hx⟩:∃ x,x=u k:=⟨_,rfl⟩
    obtain ⟨y,hy⟩:∃ y,y=v k:=⟨_,rfl⟩
    have p1:∀ w',Ext w w'→w'.cell? ⟨g1,o1+k,none⟩=some (.int .i64 (x:Int)):=fun w' h=>by rw [hx];exact h.cell (H1.out.c k hlt)
    have q1:∀ w',Ext w w'→w'.cell? ⟨g2,o2+k,none⟩=some (.int .i64 (y:Int)):=fun w' h=>by rw [hy];exact h.cell (H2.out.c k hlt)
    have HX:=Lib.hid (And.intro hx hy)
    clear hx hy
    by_cases e:x=y
    ·subst e
     have d1:((x:Int) == (x:Int))=true:=by simp
     go_upto_region 6 with fail
     go_quiet (fail)
     have hq:=hxr.drewN nq
     go_wp2_with fail
     go_roundg (n - (k+1))
     case rel=>exact ⟨k+1,by omega,rfl,by go_num,hq,fun i hi=>by
      by_cases e:i=k
      ·subst e;rw [←HX.out.1,←HX.out.2]
      ·exact HA.out i (by omega)⟩
     case measure=>omega
    ·have d1:((x:Int) == (y:Int))=false:=by simpa using fun h:(x:Int)=y=>e (by omega)
     by_cases hxy:x<y
     ·have d2:decide ((x:Int)<(y:Int))=true:=decide_eq_true (by omega)
      have d2':decide (x<y)=true:=decide_eq_true hxy
      have HT:=Lib.hid (HB.out.2 (.inr ⟨by first | rfl | trivial,k,hlt,HA.out,by rw [←HX.out.1,←HX.out.2];exact hxy⟩))
      clear hxy e
      go_upto_region 6 with fail
      go_quiet (fail)
      have hq:=hxr.drewN nq
      go_upto_region 7 with fail
      generalize wr.drewN nq=ws at hq ⊢
      go_quiet (fail)
      go_wp2_with fail
      go_ret
      exact ⟨true,rfl,⟨fun _=>HT.out,fun _=>rfl⟩,hq.drewN _⟩
     ·have d2:decide ((x:Int)<(y:Int))=false:=decide_eq_false (by omega)
      have d2':decide (x<y)=false:=decide_eq_false hxy
      have HT:=Lib.hid (show ¬befP n u v from fun h=>by
       rcases HB.out.1 h with h | ⟨_,p,hp,h3,h4⟩
       ·omega
       ·rcases Nat.lt_trichotomy p k with c | c | c
        ·have:=HA.out p c;omega
        ·subst c;rw [←HX.out.1,←HX.out.2] at h4;exact hxy h4
        ·have:=h3 k c;rw [←HX.out.1,←HX.out.2] at this;exact e this)
      clear hxy e
      go_upto_region 6 with fail
      go_quiet (fail)
      have hq:=hxr.drewN nq
      go_upto_region 7 with fail
      generalize wr.drewN nq=ws at hq ⊢
      go_quiet (fail)
      go_wp2_with fail
      go_ret
      exact ⟨false,rfl,⟨fun h=>(by cases h),fun h=>absurd h HT.out⟩,hq.drewN _⟩
   ·obtain rfl:k=n:=by omega
    have HT:=Lib.hid (show ¬befP k u v from fun h=>by
     rcases HB.out.1 h with h | ⟨_,p,hp,h3,h4⟩
     ·omega
     ·have:=HA.out p hp;omega)
    go_wp2_with fail
    go_ret
    exact ⟨false,rfl,⟨fun h=>(by cases h),fun h=>absurd h HT.out⟩,hxr⟩
 ·have d0:((tu:Int) == (tv:Int))=false:=by simpa using fun h:(tu:Int)=tv=>ht (by omega)
  have d0':(tu == tv)=false:=by simpa using ht
  have HT:=Lib.hid (show befP n u v↔tu<tv from HB.out.trans ⟨fun h=>h.resolve_right fun k=>ht k.1,.inl⟩)
  go_wp2_with fail
  go_at_call 155
  refine (S1.out wb hxb).mono ?_
  rintro e wc ⟨rfl,hxc'⟩
  have hxc:=hxb.trans hxc'
  go_wp2_with fail
  go_at_call 155
  refine (S2.out wc hxc).mono ?_
  rintro e wd ⟨rfl,hxd'⟩
  have hxd:=hxc.trans hxd'
  by_cases hl:tu<tv
  ·have d2:decide ((tu:Int)<(tv:Int))=true:=decide_eq_true (by omega)
   have d2':decide (tu<tv)=true:=decide_eq_true hl
   go_wp2_with fail
   go_ret
   exact ⟨true,ret_bool (by first | rfl | simp [hl]),⟨fun _=>HT.out.2 hl,fun _=>rfl⟩,hxd⟩
  ·have d2:decide ((tu:Int)<(tv:Int))=false:=decide_eq_false (by omega)
   have d2':decide (tu<tv)=false:=decide_eq_false hl
   go_wp2_with fail
   go_ret
   exact ⟨false,ret_bool (by first | rfl | simp [hl]),⟨fun h=>(by cases h),fun h=>absurd (HT.out.1 h) hl⟩,hxd⟩
end Go.Proofs.YtlfdfkbmollaaaaGreatDoor

namespace Go.Proofs.YtlfdfkbmollaaaaGreatDoor
open Go.RowKit Go.Shelf
def Row.bef (n:Nat) (a b:Row):Prop:=befP n (fn a.l) (fn b.l)
def InsIs (n:Nat) (R:List Row) (r:Row) (R':List Row):Prop:=∃ k,k≤R.length∧(∀ j (hj:j<R.length),j<k→R[j].bef n r)∧(∀ hk:k<R.length,¬R[k].bef n r)∧
 ((∃ hk:k<R.length,R[k].l=r.l∧R'=R)∨((∀ hk:k<R.length,R[k].l≠r.l)∧R'=R.take k++r :: R.drop k))
structure RowOk (n:Nat) (r:Row):Prop where
 len:r.l.length=n
 sm:∀ p,p≤n→tot (fn r.l) p≤100000
theorem InsIs.mem {n:Nat} {R R':List Row} {r:Row} (h:InsIs n R r R'):(∀ x,x∈R'→x=r∨x∈R)∧∀ l,(∃ x∈R',x.l=l)↔(l=r.l∨∃ x∈R,x.l=l):=by
 obtain ⟨k,hk,_,_,⟨hkl,he,rfl⟩ | ⟨_,rfl⟩⟩:=h
 ·refine ⟨fun x hx=>.inr hx,fun l=>⟨fun h=>.inr h,?_⟩⟩
  rintro (rfl | h)
  ·exact ⟨_,List.getElem_mem hkl,he⟩
  ·exact h
 ·have key : ∀ x, x ∈ R.take k ++ r :: R.drop k ↔ x = r ∨ x ∈ R := fun x => by
    conv=>rhs;rw [←List.take_append_drop k R]
    simp only [List.mem_append,List.mem_cons]
    constructor
    ·rintro (h | h | h)
     ·exact .inr (.inl h)
     ·exact .inl h
     ·exact .inr (.inr h)
    ·rintro (h | h | h)
     ·exact .inr (.inl h)
     ·exact .inl h
     ·exact .inr (.inr h)
  refine ⟨fun x hx=>(key x).1 hx,fun l=>⟨?_,?_⟩⟩
  ·rintro ⟨x,hx,rfl⟩
   rcases (key x).1 hx with rfl | h
   ·exact .inl rfl
   ·exact .inr ⟨x,h,rfl⟩
  ·rintro (rfl | ⟨x,hx,rfl⟩)
   ·exact ⟨r,(key r).2 (.inl rfl),rfl⟩
   ·exact ⟨x,(key x).2 (.inr hx),rfl⟩
theorem InsIs.sorted {n:Nat} {R R':List Row} {r:Row} (h:InsIs n R r R') (hs:R.Pairwise (Row.bef n)) (hn:∀ x∈R,x.l.length=n) (hr:r.l.length=n):R'.Pairwise (Row.bef n):=by
 obtain ⟨k,hk,hlt,hge,⟨hkl,he,rfl⟩ | ⟨hne,rfl⟩⟩:=h
 ·exact hs
 ·have hall : ∀ x ∈ R.take k, x.bef n r := fun x hx => by
    obtain ⟨j,hj,rfl⟩:=List.getElem_of_mem hx
    rw [List.length_take] at hj
    rw [List.getElem_take]
    exact hlt j (by omega) (by omega)
  have hdr:∀ x∈R.drop k,r.bef n x:=by
   by_cases hkl:k<R.length
   ·have h1 : r.bef n R[k] := by
      refine (befP_total (n:=n) (u:=fn R[k].l) (v:=fn r.l) fun h=>hne hkl ?_).resolve_left (hge hkl)
      exact fn_ext (by rw [hn _ (List.getElem_mem hkl),hr]) fun p hp=>h p (by rw [hn _ (List.getElem_mem hkl)] at hp;exact hp)
    intro x hx
    rw [List.drop_eq_getElem_cons hkl] at hx
    rcases List.mem_cons.1 hx with rfl | hx
    ·exact h1
    ·have h2:=hs.sublist (List.drop_sublist k R)
     rw [List.drop_eq_getElem_cons hkl] at h2
     exact befP_trans h1 ((List.pairwise_cons.1 h2).1 x hx)
   ·intro x hx
    rw [List.drop_of_length_le (by omega)] at hx;cases hx
  refine List.pairwise_append.2 ⟨hs.sublist (List.take_sublist k R),List.pairwise_cons.2 ⟨hdr,hs.sublist (List.drop_sublist k R)⟩,fun x hx y hy=>?_⟩
  rcases List.mem_cons.1 hy with rfl | hy
  ·exact hall x hx
  ·exact befP_trans (hall x hx) (hdr y hy)
theorem infoInts1:(Tryz.prog.info? 27).map (fun i=>(i.zero,i.size,i.bytes))=some (some (.slice none 0 0),1,24):=by kernel_rfl
end Go.Proofs.YtlfdfkbmollaaaaGreatDoor
