/- Contracts and laws in plain Lean for RApp: group P38. -/
import Derived.Test.YtmhapcnlpoilpaaGreatDoorP36
import Derived.Test.YtmhapcnlpoilpaaGreatDoorP20
import Derived.Test.YtmhapcnlpoilpaaGreatDoorP34
set_option maxRecDepth 100000
namespace Go.Proofs.YtmhapcnlpoilpaaGreatDoor
open Go.RowKit Go.Shelf
attribute [local go_sem] Oper.semAt_some
def fn (l:List Nat):Nat→Nat:=fun p=>l.getD p 0
theorem fn_ext {l m:List Nat} (hl:l.length=m.length) (h:∀ p,p<l.length→fn l p=fn m p):l=m:=by
 refine List.ext_getElem hl fun p h1 h2=>?_
 have h3:=h p h1
 unfold fn at h3
 rw [List.getD_eq_getElem?_getD,List.getD_eq_getElem?_getD,List.getElem?_eq_getElem h1,List.getElem?_eq_getElem h2] at h3
 exact h3
def rowOf (n:Nat) (c:Nat→Nat):List Nat:=(List.range n).map c
theorem rowOf_len (n:Nat) (c:Nat→Nat):(rowOf n c).length=n:=by simp [rowOf]
theorem fn_rowOf {n:Nat} {c:Nat→Nat} {p:Nat} (h:p<n):fn (rowOf n c) p=c p:=by simp [fn,rowOf,h]
structure Row where
 l:List Nat
 a:Option Addr
 g:Nat
 o:Nat
 c:Nat
def Row.val (r:Row):Value:=.slice r.a r.l.length r.c
def Row.At (r:Row) (w:World):Prop:=NumAt w r.l.length r.a r.g r.o (natV (fn r.l))
theorem Row.At.ext {r:Row} {w w':World} (h:r.At w) (x:Ext w w'):r.At w':=NumAt.ext h x
def RowsQ (w:World) (base:Nat) (v:Value) (R:List Row):Prop:=Que w base 1 v R.length (R.map Row.val)∧∀ r∈R,r.At w
theorem RowsQ.ext {w w':World} {base:Nat} {v:Value} {R:List Row} (h:RowsQ w base v R) (x:Ext w w'):RowsQ w' base v R:=⟨h.1.ext x,fun r hr=>(h.2 r hr).ext x⟩
theorem RowsQ.mono {w:World} {base base':Nat} {v:Value} {R:List Row} (h:RowsQ w base v R) (hb:base'≤base):RowsQ w base' v R:=⟨h.1.mono hb,h.2⟩
theorem RowsQ.nil (w:World) (base:Nat):RowsQ w base (.slice none 0 0) []:=⟨Que.nil w base 1,fun _ h=>by cases h⟩
theorem RowsQ.get {w : World} {base : Nat} {v : Value} {R : List Row} (h : RowsQ w base v R) :
    ∃ a g o c,v=.slice a R.length c∧R.length≤c∧(0<R.length→a=some ⟨g,o,none⟩∧base≤g∧g<w.heap.size)∧∀ k (hk:k<R.length) w',Ext w w'→w'.cell? ⟨g,o+k,none⟩=some (.slice R[k].a R[k].l.length R[k].c):=by
 obtain ⟨a,g,o,c,h1,h2,h3,h4⟩:=Que.cells1 h.1
 refine ⟨a,g,o,c,h1,h2,h3,fun k hk w' x=>?_⟩
 have h5:=h4 k hk
 rw [List.getElem?_map,List.getElem?_eq_getElem hk] at h5
 exact x.cell h5
theorem row_one (l:List Row):∀ u∈l.map Row.val,u.oneCell'=true:=by
 intro u hu
 obtain ⟨r,_,rfl⟩:=List.mem_map.1 hu
 rfl
def lexP (n:Nat) (u v:Nat→Nat):Prop:=∃ p,p<n∧(∀ q,q<p→u q=v q)∧u p<v p
def befP (n:Nat) (u v:Nat→Nat):Prop:=tot u n<tot v n∨(tot u n=tot v n∧lexP n u v)
theorem lexP_irrefl (n:Nat) (u:Nat→Nat):¬lexP n u u:=fun ⟨_,_,_,h⟩=>absurd h (Nat.lt_irrefl _)
theorem lexP_trans {n:Nat} {u v w:Nat→Nat} (h:lexP n u v) (k:lexP n v w):lexP n u w:=by
 obtain ⟨p,hp,h1,h2⟩:=h
 obtain ⟨q,hq,k1,k2⟩:=k
 rcases Nat.lt_trichotomy p q with e | e | e
 ·exact ⟨p,hp,fun r hr=>(h1 r hr).trans (k1 r (by omega)),by rw [←k1 p e];exact h2⟩
 ·subst e;exact ⟨p,hp,fun r hr=>(h1 r hr).trans (k1 r hr),by omega⟩
 ·exact ⟨q,hq,fun r hr=>(h1 r (by omega)).trans (k1 r hr),by rw [h1 q e];exact k2⟩
theorem first_diff {u v:Nat→Nat}:∀ n,(∀ q,q<n→u q=v q)∨∃ p,p<n∧(∀ q,q<p→u q=v q)∧u p≠v p
 | 0 => .inl fun q h => by omega
 | n+1 => by
  rcases first_diff (u:=u) (v:=v) n with h | ⟨p,hp,h1,h2⟩
  ·by_cases e:u n=v n
   ·exact .inl fun q hq => by
      by_cases e2:q=n
      ·subst e2;exact e
      ·exact h q (by omega)
   ·exact .inr ⟨n,by omega,h,e⟩
  ·exact .inr ⟨p,by omega,h1,h2⟩
theorem lexP_total {n:Nat} {u v:Nat→Nat} (h:¬ ∀ q,q<n→u q=v q):lexP n u v∨lexP n v u:=by
 rcases first_diff (u:=u) (v:=v) n with k | ⟨p,hp,h1,h2⟩
 ·exact absurd k h
 ·rcases Nat.lt_or_gt_of_ne h2 with e | e
  ·exact .inl ⟨p,hp,h1,e⟩
  ·exact .inr ⟨p,hp,fun q hq=>(h1 q hq).symm,e⟩
theorem befP_irrefl (n:Nat) (u:Nat→Nat):¬befP n u u:=by
 rintro (h | ⟨_,h⟩)
 ·omega
 ·exact lexP_irrefl n u h
theorem befP_trans {n:Nat} {u v w:Nat→Nat} (h:befP n u v) (k:befP n v w):befP n u w:=by
 rcases h with h | ⟨h,h'⟩ <;> rcases k with k | ⟨k,k'⟩
 ·exact .inl (by omega)
 ·exact .inl (by omega)
 ·exact .inl (by omega)
 ·exact .inr ⟨by omega,lexP_trans h' k'⟩
theorem befP_total {n:Nat} {u v:Nat→Nat} (h:¬ ∀ q,q<n→u q=v q):befP n u v∨befP n v u:=by
 rcases Nat.lt_trichotomy (tot u n) (tot v n) with e | e | e
 ·exact .inl (.inl e)
 ·rcases lexP_total h with k | k
  ·exact .inl (.inr ⟨e,k⟩)
  ·exact .inr (.inr ⟨e.symm,k⟩)
 ·exact .inr (.inl e)
set_option maxHeartbeats 1000000 in
theorem rsame_any (w : World) (a1 a2 : Option Addr) (g1 o1 g2 o2 n m c1 c2 : Nat) (u v : Nat → Int) (h1 : NumAt w n a1 g1 o1 u) (h2 : NumAt w m a2 g2 o2 v) :
    Calls Tryz.prog 132 #[.slice a1 n c1,.slice a2 m c2] w (BoolPost (EqL n m u v) w):=by
 have hn1:=h1.hn
 have hn2:=h2.hn
 have H1:=Lib.hid h1
 have H2:=Lib.hid h2
 have hww:Ext w w:=Ext.refl _
 clear h1 h2
 go_enter Tryz.func132,Tryz.ntmps132
 by_cases hnm:n=m
 ·subst hnm
  have d0:((n:Int) == (n:Int))=true:=by simp
  go_wp2_with fail
  go_loopg [5] n (fun gg v5 wr=>∃ k:Nat,k≤n∧gg=n - k∧v5=.int .i64 k∧Ext w wr∧∀ i,i<k→u i=v i)
  case atStart=>exact ⟨0,by omega,rfl,rfl,hww,fun i h=>by omega⟩
  case round=>
   obtain ⟨k,hk,rfl,rfl,hxr,hall⟩:=hrel
   have HA:=Lib.hid hall
   clear hall
   by_cases hlt:k<n
   ·have hlt':(k:Int)<(n:Int):=by omega
    obtain rfl:=H1.out.pa (by omega)
    obtain rfl:=H2.out.pa (by omega)
    have pb1:∀ w',Ext w w'→g1<w'.heap.size:=fun w' x=>Nat.lt_of_lt_of_le (H1.out.pb (by omega)) x.le
    have pb2:∀ w',Ext w w'→g2<w'.heap.size:=fun w' x=>Nat.lt_of_lt_of_le (H2.out.pb (by omega)) x.le
    obtain ⟨x,hx⟩:∃ x,x=u k:=⟨_,rfl⟩
    obtain ⟨y,hy⟩:∃ y,y=v k:=⟨_,rfl⟩
    have p1:∀ w',Ext w w'→w'.cell? ⟨g1,o1+k,none⟩=some (.int .i64 x):=fun w' h=>by rw [hx];exact h.cell (H1.out.c k hlt)
    have q1:∀ w',Ext w w'→w'.cell? ⟨g2,o2+k,none⟩=some (.int .i64 y):=fun w' h=>by rw [hy];exact h.cell (H2.out.c k hlt)
    have HX:=Lib.hid (And.intro hx hy)
    clear hx hy
    by_cases e:x=y
    ·subst e
     have d1:(x == x)=true:=by simp
     go_upto_region 6 with fail
     go_quiet (fail)
     have hq:=hxr.drewN nq
     go_wp2_with fail
     go_roundg (n - (k+1))
     case rel=>exact ⟨k+1,by omega,rfl,by go_num,hq,fun i hi=>by
      by_cases e:i=k
      ·subst e;rw [←HX.out.1,←HX.out.2]
      ·exact HA.out i (by omega)⟩
     case measure=>omega
    ·have d1:(x == y)=false:=by simpa using e
     go_upto_region 6 with fail
     go_quiet (fail)
     have hq:=hxr.drewN nq
     go_wp2_with fail
     go_ret
     exact ⟨false,rfl,⟨fun h=>(by cases h),fun h=>absurd (h.2 k hlt) (by rw [←HX.out.1,←HX.out.2];exact e)⟩,hq⟩
   ·obtain rfl:k=n:=by omega
    go_wp2_with fail
    go_ret
    exact ⟨true,rfl,⟨fun _=>⟨rfl,HA.out⟩,fun _=>rfl⟩,hxr⟩
 ·have d0:((n:Int) == (m:Int))=false:=by simpa using fun h:(n:Int)=m=>hnm (by omega)
  have d0':(n == m)=false:=by simpa using hnm
  go_wp2_with fail
  go_ret
  exact ⟨false,rfl,⟨fun h=>(by cases h),fun h=>absurd h.1 hnm⟩,hww⟩
set_option maxHeartbeats 1000000 in
theorem rsize_any (w : World) (a : Option Addr) (g o n c : Nat) (u : Nat → Nat) (h1 : NumAt w n a g o (natV u)) (hs : ∀ p, p ≤ n → tot u p ≤ 100000) :
    Calls Tryz.prog 80 #[.slice a n c] w fun e w'=>e=.returned (.int .i64 (tot u n:Nat))∧Ext w w':=by
 have hn1:=h1.hn
 have H1:=Lib.hid h1
 have HS:=Lib.hid hs
 have hww:Ext w w:=Ext.refl _
 clear h1 hs
 go_enter Tryz.func80,Tryz.ntmps80
 go_wp2_with fail
 go_loopg [3,4] n (fun gg v3 v4 wr=>∃ k:Nat,k≤n∧gg=n - k∧v4=.int .i64 k∧v3=.int .i64 (tot u k:Nat)∧Ext w wr)
 case atStart=>exact ⟨0,by omega,rfl,rfl,rfl,hww⟩
 case round=>
  obtain ⟨k,hk,rfl,rfl,rfl,hxr⟩:=hrel
  by_cases hlt:k<n
  ·have hlt':(k:Int)<(n:Int):=by omega
   obtain rfl:=H1.out.pa (by omega)
   have pb1:∀ w',Ext w w'→g<w'.heap.size:=fun w' x=>Nat.lt_of_lt_of_le (H1.out.pb (by omega)) x.le
   obtain ⟨x,hx⟩:∃ x,x=u k:=⟨_,rfl⟩
   have p1:∀ w',Ext w w'→w'.cell? ⟨g,o+k,none⟩=some (.int .i64 (x:Int)):=fun w' h=>by rw [hx];exact h.cell (H1.out.c k hlt)
   have h2:=HS.out (k+1) (by omega)
   have h3:tot u (k+1)=tot u k+x:=by rw [hx];rfl
   have H3:=Lib.hid h3
   obtain ⟨s,hs⟩:∃ s,s=tot u k:=⟨_,rfl⟩
   rw [←hs] at H3 h3 ⊢
   have hw1:IntKind.i64.wrap ((s:Int)+(x:Int))=((s+x:Nat):Int):=by rw [IntWalk.i64_in _ (by omega)];omega
   clear hx h2 h3 hs
   go_wp2_with fail
   go_roundg (n - (k+1))
   case rel=>exact ⟨k+1,by omega,rfl,by go_num,congrArg (Value.int .i64) (by rw [H3.out];omega),hxr⟩
   case measure=>omega
  ·obtain rfl:k=n:=by omega
   go_wp2_with fail
   go_ret
   exact ⟨rfl,hxr⟩
set_option maxHeartbeats 1000000 in
theorem rbef_any (w : World) (a1 a2 : Option Addr) (g1 o1 g2 o2 n c1 c2 : Nat) (u v : Nat → Nat) (h1 : NumAt w n a1 g1 o1 (natV u)) (h2 : NumAt w n a2 g2 o2 (natV v)) (hs1 : ∀ p, p ≤ n → tot u p ≤ 100000) (hs2 : ∀ p, p ≤ n → tot v p ≤ 100000) :
    Calls Tryz.prog 131 #[.slice a1 n c1,.slice a2 n c2] w (BoolPost (befP n u v) w):=by
 have hn1:=h1.hn
 have S1:=Lib.hid (fun W (x:Ext w W)=>rsize_any W a1 g1 o1 n c1 u (h1.ext x) hs1)
 have S2:=Lib.hid (fun W (x:Ext w W)=>rsize_any W a2 g2 o2 n c2 v (h2.ext x) hs2)
 have H1:=Lib.hid h1
 have H2:=Lib.hid h2
 have hww:Ext w w:=Ext.refl _
 obtain ⟨tu,htu⟩:∃ t,t=tot u n:=⟨_,rfl⟩
 obtain ⟨tv,htv⟩:∃ t,t=tot v n:=⟨_,rfl⟩
 have HB:=Lib.hid (show befP n u v↔tu<tv∨(tu=tv∧lexP n u v) from by rw [htu,htv];rfl)
 rw [←htu] at S1
 rw [←htv] at S2
 clear h1 h2 hs1 hs2 htu htv
 go_enter Tryz.func131,Tryz.ntmps131
 go_wp2_with fail
 go_at_call 80
 refine (S1.out w hww).mono ?_
 rintro e wa ⟨rfl,hxa⟩
 go_wp2_with fail
 go_at_call 80
 refine (S2.out wa hxa).mono ?_
 rintro e wb ⟨rfl,hxb'⟩
 have hxb:=hxa.trans hxb'
 by_cases ht:tu=tv
 ·subst ht
  have d0:((tu:Int) == (tu:Int))=true:=by simp
  clear hxa hxb'
  go_wp2_with fail
  go_loopg [5] n (fun gg v5 wr=>∃ k:Nat,k≤n∧gg=n - k∧v5=.int .i64 k∧Ext w wr∧∀ i,i<k→u i=v i)
  case atStart=>exact ⟨0,by omega,rfl,rfl,hxb,fun i h=>by omega⟩
  case round=>
   obtain ⟨k,hk,rfl,rfl,hxr,hall⟩:=hrel
   have HA:=Lib.hid hall
   clear hall
   by_cases hlt:k<n
   ·have hlt':(k:Int)<(n:Int):=by omega
    obtain rfl:=H1.out.pa (by omega)
    obtain rfl:=H2.out.pa (by omega)
    have pb1:∀ w',Ext w w'→g1<w'.heap.size:=fun w' x=>Nat.lt_of_lt_of_le (H1.out.pb (by omega)) x.le
    have pb2:∀ w',Ext w w'→g2<w'.heap.size:=fun w' x=>Nat.lt_of_lt_of_le (H2.out.pb (by omega)) x.le
    obtain ⟨x,hx⟩:∃ x,x=u k:=⟨_,rfl⟩
    obtain ⟨y,hy⟩:∃ y,y=v k:=⟨_,rfl⟩
    have p1:∀ w',Ext w w'→w'.cell? ⟨g1,o1+k,none⟩=some (.int .i64 (x:Int)):=fun w' h=>by rw [hx];exact h.cell (H1.out.c k hlt)
    have q1:∀ w',Ext w w'→w'.cell? ⟨g2,o2+k,none⟩=some (.int .i64 (y:Int)):=fun w' h=>by rw [hy];exact h.cell (H2.out.c k hlt)
    have HX:=Lib.hid (And.intro hx hy)
    clear hx hy
    by_cases e:x=y
    ·subst e
     have d1:((x:Int) == (x:Int))=true:=by simp
     go_upto_region 6 with fail
     go_quiet (fail)
     have hq:=hxr.drewN nq
     go_wp2_with fail
     go_roundg (n - (k+1))
     case rel=>exact ⟨k+1,by omega,rfl,by go_num,hq,fun i hi=>by
      by_cases e:i=k
      ·subst e;rw [←HX.out.1,←HX.out.2]
      ·exact HA.out i (by omega)⟩
     case measure=>omega
    ·have d1:((x:Int) == (y:Int))=false:=by simpa using fun h:(x:Int)=y=>e (by omega)
     by_cases hxy:x<y
     ·have d2:decide ((x:Int)<(y:Int))=true:=decide_eq_true (by omega)
      have d2':decide (x<y)=true:=decide_eq_true hxy
      have HT:=Lib.hid (HB.out.2 (.inr ⟨by first | rfl | trivial,k,hlt,HA.out,by rw [←HX.out.1,←HX.out.2];exact hxy⟩))
      clear hxy e
      go_upto_region 6 with fail
      go_quiet (fail)
      have hq:=hxr.drewN nq
      go_upto_region 7 with fail
      generalize wr.drewN nq=ws at hq ⊢
      go_quiet (fail)
      go_wp2_with fail
      go_ret
      exact ⟨true,rfl,⟨fun _=>HT.out,fun _=>rfl⟩,hq.drewN _⟩
     ·have d2:decide ((x:Int)<(y:Int))=false:=decide_eq_false (by omega)
      have d2':decide (x<y)=false:=decide_eq_false hxy
      have HT:=Lib.hid (show ¬befP n u v from fun h=>by
       rcases HB.out.1 h with h | ⟨_,p,hp,h3,h4⟩
       ·omega
       ·rcases Nat.lt_trichotomy p k with c | c | c
        ·have:=HA.out p c;omega
        ·subst c;rw [←HX.out.1,←HX.out.2] at h4;exact hxy h4
        ·have:=h3 k c;rw [←HX.out.1,←HX.out.2] at this;exact e this)
      clear hxy e
      go_upto_region 6 with fail
      go_quiet (fail)
      have hq:=hxr.drewN nq
      go_upto_region 7 with fail
      generalize wr.drewN nq=ws at hq ⊢
      go_quiet (fail)
      go_wp2_with fail
      go_ret
      exact ⟨false,rfl,⟨fun h=>(by cases h),fun h=>absurd h HT.out⟩,hq.drewN _⟩
   ·obtain rfl:k=n:=by omega
    have HT:=Lib.hid (show ¬befP k u v from fun h=>by
     rcases HB.out.1 h with h | ⟨_,p,hp,h3,h4⟩
     ·omega
     ·have:=HA.out p hp;omega)
    go_wp2_with fail
    go_ret
    exact ⟨false,rfl,⟨fun h=>(by cases h),fun h=>absurd h HT.out⟩,hxr⟩
 ·have d0:((tu:Int) == (tv:Int))=false:=by simpa using fun h:(tu:Int)=tv=>ht (by omega)
  have d0':(tu == tv)=false:=by simpa using ht
  have HT:=Lib.hid (show befP n u v↔tu<tv from HB.out.trans ⟨fun h=>h.resolve_right fun k=>ht k.1,.inl⟩)
  go_wp2_with fail
  go_at_call 80
  refine (S1.out wb hxb).mono ?_
  rintro e wc ⟨rfl,hxc'⟩
  have hxc:=hxb.trans hxc'
  go_wp2_with fail
  go_at_call 80
  refine (S2.out wc hxc).mono ?_
  rintro e wd ⟨rfl,hxd'⟩
  have hxd:=hxc.trans hxd'
  by_cases hl:tu<tv
  ·have d2:decide ((tu:Int)<(tv:Int))=true:=decide_eq_true (by omega)
   have d2':decide (tu<tv)=true:=decide_eq_true hl
   go_wp2_with fail
   go_ret
   exact ⟨true,ret_bool (by first | rfl | simp [hl]),⟨fun _=>HT.out.2 hl,fun _=>rfl⟩,hxd⟩
  ·have d2:decide ((tu:Int)<(tv:Int))=false:=decide_eq_false (by omega)
   have d2':decide (tu<tv)=false:=decide_eq_false hl
   go_wp2_with fail
   go_ret
   exact ⟨false,ret_bool (by first | rfl | simp [hl]),⟨fun h=>(by cases h),fun h=>absurd (HT.out.1 h) hl⟩,hxd⟩
end Go.Proofs.YtmhapcnlpoilpaaGreatDoor

namespace Go.Proofs.YtmhapcnlpoilpaaGreatDoor
open Go.RowKit Go.Shelf
theorem rowC_len (f:Nat→Int) (n:Nat):(intCells (rowL f n)).length=n:=by simp [rowL,intCells]
theorem NumAt.src {w:World} {n:Nat} {a:Option Addr} {g o:Nat} {v:Nat→Int} (h:NumAt w n a g o v) (c:Nat):Src Tryz.prog 1 25 (.slice a n c) n (intCells (rowL v n)) w:=by
 by_cases h0:0<n
 ·rw [h.pa h0]
  refine Src.ofSlice w Tryz.underlying25 ⟨g,o,none⟩ n c _ (by rw [rowC_len,Nat.mul_one]) (fun j u hu=>?_) (intCells_one _)
  have hj:j<n:=by
   have h2:=(List.getElem?_eq_some_iff.1 hu).1
   rw [rowC_len] at h2;exact h2
  rw [rowL_get _ hj] at hu
  cases hu
  rw [Addr.add_lit];exact h.c j hj
 ·obtain rfl:n=0:=by omega
  cases a with
  | none => exact Src.ofNil w Tryz.underlying25 _
  | some a => exact Src.ofSlice w Tryz.underlying25 a 0 _ [] (by simp) (by intro _ _ h';simp at h') (by intro u hu;cases hu)
def RowPost (n:Nat) (c:Nat→Nat) (w:World) (e:Ending) (w':World):Prop:=Ext w w'∧∃ g o cap,e=.returned (.slice (some ⟨g,o,none⟩) n cap)∧NumAt w' n (some ⟨g,o,none⟩) g o (natV c)∧w.heap.size≤g
set_option maxHeartbeats 1000000 in
theorem rstep_any (w : World) (a : Option Addr) (g o n cap : Nat) (c : Nat → Nat) (h : NumAt w n a g o (natV c)) (p : Nat) (hp : p < n) (hn : n ≤ 1000) (hc : c p ≤ 100000) :
    Calls Tryz.prog 130 #[.slice a n cap,.int .i64 p] w (RowPost n (upC c p) w):=by
 obtain ⟨j0,hj0,hy0,hy1,hy2⟩:=info_parts infoInt
 have HC:=Lib.hid h
 have hp':(p:Int)<(n:Int):=by omega
 unfold RowPost
 clear h
 go_enter Tryz.func130,Tryz.ntmps130
 go_upto_region 2 with (at_builtin;refine wpList_append_que _ rfl _ _ 25 25 rfl (base:=w.heap.size) (e:=3) (size:=1) j0 (.int .i64 0) 8 Tryz.underlying25 hj0 hy0 hy1 hy2 rfl rfl (v:=.slice (some ⟨w.heap.size,0,none⟩) 0 0) (n:=0) (xs:=[]) ⟨rfl,.inl ⟨_,rfl,rfl,fun a e=>by cases e;exact Nat.le_refl _⟩⟩ (by simp) (.slice a n cap) n (intCells (rowL (natV c) n)) rfl ((HC.out.ext (Ext.alloc _ _)).src cap) (by unfold maxLen;omega) (by omega) ?_;rintro v5 w5 hq5 hg5 -)
 rw [Nat.zero_add,List.nil_append] at hq5
 have hx5:Ext w w5:=((Below.refl _ w).alloc (Nat.le_refl _) _).grown hg5 (by simp) (by intro k hk;simp [Value.ownBlock] at hk;omega)
 rcases hq5.val with ⟨_,_,hn0,_⟩ | ⟨g5,o5,c5,rfl,q1,q2,q3,q4,q5,q6⟩
 ·omega
 have HQ5:=Lib.hid (fun j (hj:j<n)=>(q5 j (by omega)).trans (rowL_get (natV c) hj))
 obtain ⟨cp,hcp⟩:∃ z,z=c p:=⟨_,rfl⟩
 have HCP:=Lib.hid hcp
 have l5:∀ w',Ext w5 w'→g5<w'.heap.size:=fun w' x=>Nat.lt_of_lt_of_le q2 x.le
 have k5:∀ w',Ext w5 w'→w'.cell? ⟨g5,o5+p,none⟩=some (.int .i64 (cp:Int)):=fun w' x=>by rw [hcp];exact x.cell (HQ5.out p hp)
 have f5:∀ w',Ext w5 w'→w'.frozen? ⟨g5,o5+p,none⟩=false:=fun w' x=>(x.frozen (p:=⟨g5,o5+p,none⟩) q2).trans (q6 p (by omega)).2
 have hw1:IntKind.i64.wrap ((cp:Int)+1)=(cp:Int)+1:=IntWalk.i64_in _ (by omega)
 have h55:Ext w5 w5:=Ext.refl _
 have HQ:=Lib.hid (And.intro q1 q2)
 have HX5:=Lib.hid hx5
 clear hq5 hg5 q1 q2 q4 q5 q6 hcp hx5
 go_wp2_with fail
 go_ret
 refine ⟨HX5.out.setCell HQ.out.1 _,g5,o5,c5,rfl,⟨by omega,fun _=>rfl,fun _=>by rw [World.size_setCell];exact HQ.out.2,fun j hj=>?_⟩,HQ.out.1⟩
 by_cases e:j=p
 ·subst e
  refine (World.cell?_setCell_same _ _ _ (HQ5.out j hj)).trans ?_
  show _=some (Value.int .i64 ((upC c j j:Nat):Int))
  rw [upC_same,HCP.out];rfl
 ·refine Eq.trans (World.cell?_setCell_other _ _ _ _ fun h9=>?_) ((HQ5.out j hj).trans ?_)
  ·simp only [Addr.mk.injEq] at h9;omega
  ·show some (Value.int .i64 ((c j:Nat):Int))=some (Value.int .i64 ((upC c p j:Nat):Int))
   rw [upC_other e]
def Row.bef (n:Nat) (a b:Row):Prop:=befP n (fn a.l) (fn b.l)
def InsIs (n:Nat) (R:List Row) (r:Row) (R':List Row):Prop:=∃ k,k≤R.length∧(∀ j (hj:j<R.length),j<k→R[j].bef n r)∧(∀ hk:k<R.length,¬R[k].bef n r)∧
 ((∃ hk:k<R.length,R[k].l=r.l∧R'=R)∨((∀ hk:k<R.length,R[k].l≠r.l)∧R'=R.take k++r :: R.drop k))
structure RowOk (n:Nat) (r:Row):Prop where
 len:r.l.length=n
 sm:∀ p,p≤n→tot (fn r.l) p≤100000
theorem InsIs.mem {n:Nat} {R R':List Row} {r:Row} (h:InsIs n R r R'):(∀ x,x∈R'→x=r∨x∈R)∧∀ l,(∃ x∈R',x.l=l)↔(l=r.l∨∃ x∈R,x.l=l):=by
 obtain ⟨k,hk,_,_,⟨hkl,he,rfl⟩ | ⟨_,rfl⟩⟩:=h
 ·refine ⟨fun x hx=>.inr hx,fun l=>⟨fun h=>.inr h,?_⟩⟩
  rintro (rfl | h)
  ·exact ⟨_,List.getElem_mem hkl,he⟩
  ·exact h
 ·have key : ∀ x, x ∈ R.take k ++ r :: R.drop k ↔ x = r ∨ x ∈ R := fun x => by
    conv=>rhs;rw [←List.take_append_drop k R]
    simp only [List.mem_append,List.mem_cons]
    constructor
    ·rintro (h | h | h)
     ·exact .inr (.inl h)
     ·exact .inl h
     ·exact .inr (.inr h)
    ·rintro (h | h | h)
     ·exact .inr (.inl h)
     ·exact .inl h
     ·exact .inr (.inr h)
  refine ⟨fun x hx=>(key x).1 hx,fun l=>⟨?_,?_⟩⟩
  ·rintro ⟨x,hx,rfl⟩
   rcases (key x).1 hx with rfl | h
   ·exact .inl rfl
   ·exact .inr ⟨x,h,rfl⟩
  ·rintro (rfl | ⟨x,hx,rfl⟩)
   ·exact ⟨r,(key r).2 (.inl rfl),rfl⟩
   ·exact ⟨x,(key x).2 (.inr hx),rfl⟩
theorem InsIs.sorted {n:Nat} {R R':List Row} {r:Row} (h:InsIs n R r R') (hs:R.Pairwise (Row.bef n)) (hn:∀ x∈R,x.l.length=n) (hr:r.l.length=n):R'.Pairwise (Row.bef n):=by
 obtain ⟨k,hk,hlt,hge,⟨hkl,he,rfl⟩ | ⟨hne,rfl⟩⟩:=h
 ·exact hs
 ·have hall : ∀ x ∈ R.take k, x.bef n r := fun x hx => by
    obtain ⟨j,hj,rfl⟩:=List.getElem_of_mem hx
    rw [List.length_take] at hj
    rw [List.getElem_take]
    exact hlt j (by omega) (by omega)
  have hdr:∀ x∈R.drop k,r.bef n x:=by
   by_cases hkl:k<R.length
   ·have h1 : r.bef n R[k] := by
      refine (befP_total (n:=n) (u:=fn R[k].l) (v:=fn r.l) fun h=>hne hkl ?_).resolve_left (hge hkl)
      exact fn_ext (by rw [hn _ (List.getElem_mem hkl),hr]) fun p hp=>h p (by rw [hn _ (List.getElem_mem hkl)] at hp;exact hp)
    intro x hx
    rw [List.drop_eq_getElem_cons hkl] at hx
    rcases List.mem_cons.1 hx with rfl | hx
    ·exact h1
    ·have h2:=hs.sublist (List.drop_sublist k R)
     rw [List.drop_eq_getElem_cons hkl] at h2
     exact befP_trans h1 ((List.pairwise_cons.1 h2).1 x hx)
   ·intro x hx
    rw [List.drop_of_length_le (by omega)] at hx;cases hx
  refine List.pairwise_append.2 ⟨hs.sublist (List.take_sublist k R),List.pairwise_cons.2 ⟨hdr,hs.sublist (List.drop_sublist k R)⟩,fun x hx y hy=>?_⟩
  rcases List.mem_cons.1 hy with rfl | hy
  ·exact hall x hx
  ·exact befP_trans (hall x hx) (hdr y hy)
theorem RowsQ.src {w:World} {base:Nat} {v:Value} {R:List Row} (h:RowsQ w base v R):Src Tryz.prog 1 28 v R.length (R.map Row.val) w:=Que.src h.1 Tryz.underlying28 (row_one R)
theorem infoInts1:(Tryz.prog.info? 25).map (fun i=>(i.zero,i.size,i.bytes))=some (some (.slice none 0 0),1,24):=by kernel_rfl
theorem rows_take {w:World} {g o:Nat} {R:List Row} (h:∀ k (hk:k<R.length) w',Ext w w'→w'.cell? ⟨g,o+k,none⟩=some (.slice R[k].a R[k].l.length R[k].c)) {k:Nat} (hk:k≤R.length) (cap:Nat) {w':World} (x:Ext w w'):Src Tryz.prog 1 28 (.slice (some ⟨g,o,none⟩) k cap) k ((R.take k).map Row.val) w':=by
 refine Src.ofSlice w' Tryz.underlying28 ⟨g,o,none⟩ k cap _ (by rw [List.length_map,List.length_take];omega) (fun j u hu=>?_) (row_one _)
 have hj:j<k∧j<R.length:=by
  have h2:=(List.getElem?_eq_some_iff.1 hu).1
  rw [List.length_map,List.length_take] at h2;omega
 rw [List.getElem?_map,List.getElem?_take_of_lt hj.1,List.getElem?_eq_getElem hj.2] at hu
 cases hu
 rw [Addr.add_lit];exact h j hj.2 w' x
theorem rows_drop {w:World} {g o:Nat} {R:List Row} (h:∀ k (hk:k<R.length) w',Ext w w'→w'.cell? ⟨g,o+k,none⟩=some (.slice R[k].a R[k].l.length R[k].c)) {k:Nat} (hk:k<R.length) (cap:Nat) {w':World} (x:Ext w w'):Src Tryz.prog 1 28 (.slice (some ⟨g,o+k,none⟩) (R.length - k) cap) (R.length - k) ((R.drop k).map Row.val) w':=by
 refine Src.ofSlice w' Tryz.underlying28 ⟨g,o+k,none⟩ (R.length - k) cap _ (by rw [List.length_map,List.length_drop];omega) (fun j u hu=>?_) (row_one _)
 have hj:k+j<R.length:=by
  have h2:=(List.getElem?_eq_some_iff.1 hu).1
  rw [List.length_map,List.length_drop] at h2;omega
 rw [List.getElem?_map,List.getElem?_drop,List.getElem?_eq_getElem hj] at hu
 cases hu
 rw [Addr.add_lit,Nat.add_assoc];exact h (k+j) hj w' x
def RinsPost (n base:Nat) (v:Value) (R:List Row) (r:Row) (w:World) (e:Ending) (w':World):Prop:=Ext w w'∧∃ v' R',e=.returned v'∧RowsQ w' base v' R'∧InsIs n R r R'∧(v'=v∨∀ g,v'.ownBlock=some g→w.heap.size≤g)
set_option maxHeartbeats 4000000 in
theorem rins_any (w : World) (n base : Nat) (v : Value) (R : List Row) (hR : RowsQ w base v R) (hb : base ≤ w.heap.size) (hO : ∀ x ∈ R, RowOk n x) (hl : R.length ≤ 100000) (r : Row) (hr : r.At w) (hro : RowOk n r) :
    Calls Tryz.prog 79 #[v,r.val] w (RinsPost n base v R r w):=by
 obtain ⟨j0,hj0,hy0,hy1,hy2⟩:=info_parts infoInts1
 obtain ⟨a,g,o,cap,rfl,hcap,hag,hget⟩:=hR.get
 have HBE:=Lib.hid (fun W (x:Ext w W) k (hk:k<R.length)=>(show Calls Tryz.prog 131 #[.slice R[k].a R[k].l.length R[k].c,.slice r.a r.l.length r.c] W (BoolPost (R[k].bef n r) W) from by
  have h1:=hO _ (List.getElem_mem hk)
  have h2:=(hR.2 _ (List.getElem_mem hk)).ext x
  have h3:=hr.ext x
  unfold Row.At at h2 h3
  rw [h1.len] at h2 ⊢
  rw [hro.len] at h3 ⊢
  exact rbef_any W R[k].a r.a R[k].g R[k].o r.g r.o n R[k].c r.c (fn R[k].l) (fn r.l) h2 h3 h1.sm hro.sm))
 have HSA:=Lib.hid (fun W (x:Ext w W) k (hk:k<R.length)=>(show Calls Tryz.prog 132 #[.slice R[k].a R[k].l.length R[k].c,.slice r.a r.l.length r.c] W (BoolPost (R[k].l=r.l) W) from
  (rsame_any W R[k].a r.a R[k].g R[k].o r.g r.o R[k].l.length r.l.length R[k].c r.c (natV (fn R[k].l)) (natV (fn r.l)) ((hR.2 _ (List.getElem_mem hk)).ext x) (hr.ext x)).mono fun e w' ⟨b,he,hb,hx⟩=>⟨b,he,hb.trans ⟨fun h=>fn_ext h.1 fun p hp=>by have:=h.2 p hp;show fn R[k].l p=fn r.l p;exact Int.ofNat.inj this,fun h=>by rw [h];exact ⟨rfl,fun _ _=>rfl⟩⟩,hx⟩))
 have HR:=Lib.hid hR
 have HGE:=Lib.hid hget
 have HAG:=Lib.hid hag
 have HRR:=Lib.hid hr
 have HB:=Lib.hid hb
 unfold RinsPost
 simp only [Row.val]
 obtain ⟨len,hlen⟩:∃ z,z=R.length:=⟨_,rfl⟩
 have HLE:=Lib.hid hlen
 obtain ⟨rn,hrn⟩:∃ z,z=r.l.length:=⟨_,rfl⟩
 have HRN:=Lib.hid hrn
 rw [←hlen] at hl hcap ⊢
 rw [←hrn] at HSA HBE ⊢
 have hww:Ext w w:=Ext.refl _
 clear hR hO hr hro hget hag hlen hrn
 go_enter Tryz.func79,Tryz.ntmps79
 go_wp2_with fail
 go_loopg [5] len (fun gg v5 wr=>∃ k:Nat,k≤len∧gg=len - k∧v5=.int .i64 k∧Ext w wr∧∀ j (hj:j<R.length),j<k→R[j].bef n r)
 case atStart=>exact ⟨0,by omega,rfl,rfl,hww,fun j _ h=>by omega⟩
 case round=>
  obtain ⟨k,hk,rfl,rfl,hxr,hall⟩:=hrel
  have HA:=Lib.hid hall
  clear hall
  by_cases hlt:k<len
  ·have hlt':(k:Int)<(len:Int):=by omega
   have hkR:k<R.length:=by rw [←HLE.out];exact hlt
   obtain ⟨rfl,hbg,hgl⟩:=HAG.out (by omega)
   have hbe:=HBE.out wr hxr k hkR
   have hcell:=HGE.out k hkR
   obtain ⟨ra,hra⟩:∃ z,z=R[k].a:=⟨_,rfl⟩
   obtain ⟨rl,hrl⟩:∃ z,z=R[k].l.length:=⟨_,rfl⟩
   obtain ⟨rc,hrc⟩:∃ z,z=R[k].c:=⟨_,rfl⟩
   have HEQ:=Lib.hid (And.intro hra (And.intro hrl hrc))
   rw [←hra,←hrl,←hrc] at hbe hcell
   have pb:∀ w',Ext w w'→g<w'.heap.size:=fun w' x=>Nat.lt_of_lt_of_le hgl x.le
   clear hra hrl hrc hgl
   go_wp2_with fail
   go_at_call 131
   refine hbe.mono ?_
   rintro e w2 ⟨bb,rfl,hbb,hx2⟩
   have hx02:=hxr.trans hx2
   have HBB:=Lib.hid hbb
   clear hbe hbb hx2
   cases bb with
   | true =>
    go_wp2_with fail
    go_roundg (len - (k+1))
    case rel=>exact ⟨k+1,by omega,rfl,by go_num,hx02,fun j hj hjk=>by
     by_cases e:j=k
     ·subst e;exact HBB.out.1 (by first | rfl | trivial)
     ·exact HA.out j hj (by omega)⟩
    case measure=>omega
   | false =>
    have HNB:=Lib.hid (show ¬R[k].bef n r from fun h=>absurd (HBB.out.2 h) (by decide))
    have hsa:=HSA.out w2 hx02 k hkR
    rw [←HEQ.out.1,←HEQ.out.2.1,←HEQ.out.2.2] at hsa
    go_wp2_with fail
    go_at_call 132
    refine hsa.mono ?_
    rintro e w3 ⟨bs,rfl,hbs,hx3⟩
    have hx03:=hx02.trans hx3
    have HBS:=Lib.hid hbs
    clear hsa hbs hx3
    cases bs with
    | true =>
     go_wp2_with fail
     go_ret
     exact ⟨hx03,_,R,rfl,by rw [HLE.out];exact HR.out.ext hx03,⟨k,by rw [←HLE.out];omega,HA.out,fun _=>HNB.out,.inl ⟨hkR,HBS.out.1 (by first | rfl | trivial),rfl⟩⟩,.inl rfl⟩
    | false =>
     go_upto_region 7 with (at_builtin;refine wpList_append_que _ rfl _ _ 28 28 rfl (base:=w.heap.size) (e:=25) (size:=1) j0 (.slice none 0 0) 24 Tryz.underlying28 hj0 hy0 hy1 hy2 rfl rfl (v:=.slice (some ⟨(w3).heap.size,0,none⟩) 0 0) (n:=0) (xs:=[]) ⟨rfl,.inl ⟨_,rfl,rfl,fun a e=>by cases e;exact (hx03).le⟩⟩ (by rw [World.size_alloc];have:=(hx03).le;omega) (.slice (some ⟨g,o,none⟩) k cap) k ((R.take k).map Row.val) rfl (rows_take HGE.out (by rw [←HLE.out];omega) cap (hx03.alloc' _)) (by unfold maxLen;omega) (by omega) ?_;rintro v5 w5 hq5 hg5 -)
     rw [Nat.zero_add,List.nil_append] at hq5
     have hx5:Ext w w5:=((hx03).alloc' _).below.grown hg5 (by rw [World.size_alloc];have:=(hx03).le;omega) (by intro k hk;simp [Value.ownBlock] at hk;have:=(hx03).le;omega)
     obtain ⟨a5,c5,rfl⟩:=hq5.slice
     have HQ5:=Lib.hid hq5
     clear hq5 hg5
     go_upto_region 8 with (at_builtin;refine wpList_append_que _ rfl _ _ 28 28 rfl (base:=w.heap.size) (e:=25) (size:=1) j0 (.slice none 0 0) 24 Tryz.underlying28 hj0 hy0 hy1 hy2 rfl rfl (v:=.slice a5 k c5) (n:=k) (xs:=(R.take k).map Row.val) (by exact HQ5.out.ext (Ext.alloc _ _)) (by rw [World.size_alloc];have:=hx5.le;omega) (.slice (some ⟨w5.heap.size,0,none⟩) 1 1) 1 [.slice r.a rn r.c] rfl (by exact Src.ofSlice _ Tryz.underlying28 ⟨w5.heap.size,0,none⟩ 1 1 _ rfl (news_ok w5 _ _) (by intro u hu;simp at hu;subst hu;rfl)) (by unfold maxLen;omega) (by omega) ?_;rintro v6 w6 hq6 hg6 -)
     have hx6:Ext w w6:=(hx5.alloc' _).below.grown hg6 (by rw [World.size_alloc];have:=hx5.le;omega) HQ5.out.block
     obtain ⟨a6,c6,rfl⟩:=hq6.slice
     have HQ6:=Lib.hid hq6
     clear hq6 hg6
     go_wp2_with (at_builtin;refine wpList_append_que _ rfl _ _ 28 28 rfl (base:=w.heap.size) (e:=25) (size:=1) j0 (.slice none 0 0) 24 Tryz.underlying28 hj0 hy0 hy1 hy2 rfl rfl (v:=.slice a6 (k+1) c6) (n:=k+1) (xs:=(R.take k).map Row.val++[.slice r.a rn r.c]) (by exact HQ6.out) (by have:=hx6.le;omega) (.slice (some ⟨g,o+k,none⟩) (len - k) (cap - k)) (len - k) ((R.drop k).map Row.val) rfl (by have h1:=rows_drop HGE.out hkR (cap - k) hx6;rw [←HLE.out] at h1;exact h1) (by unfold maxLen;omega) (by omega) ?_;rintro v7 w7 hq7 hg7 -)
     have hx7:Ext w w7:=(hx6.below).grown hg7 (by have:=hx6.le;omega) HQ6.out.block
     obtain ⟨a7,c7,rfl⟩:=hq7.slice
     have HF:=Lib.hid (fun _:True=>(show RowsQ w7 base (.slice a7 (k+1+(len - k)) c7) (R.take k++r :: R.drop k) from ⟨by
      have h1:(R.take k++r :: R.drop k).map Row.val=(R.take k).map Row.val++[.slice r.a rn r.c]++(R.drop k).map Row.val:=by rw [HRN.out];simp [Row.val]
      have h2:(R.take k++r :: R.drop k).length=k+1+(len - k):=by rw [List.length_append,List.length_cons,List.length_take,List.length_drop];have:=HLE.out;omega
      rw [h1,h2];exact hq7.mono HB.out,fun x hx=>by
      have h3:x=r∨x∈R:=by
       rcases List.mem_append.1 hx with h | h
       ·exact .inr (List.mem_of_mem_take h)
       ·rcases List.mem_cons.1 h with h | h
        ·exact .inl h
        ·exact .inr (List.mem_of_mem_drop h)
      rcases h3 with rfl | h3
      ·exact HRR.out.ext hx7
      ·exact (HR.out.2 x h3).ext hx7⟩))
     have HFB:=Lib.hid hq7.block
     clear hq7 hg7
     go_ret
     first | exact ⟨hx7,_,_,rfl,HF.out trivial,⟨k,by have:=HLE.out;omega,HA.out,fun _=>HNB.out,.inr ⟨fun _ h=>absurd (HBS.out.2 h) (by decide),rfl⟩⟩,.inr HFB.out⟩ | exact ⟨hx7,_,rfl,_,HF.out trivial,⟨k,by have:=HLE.out;omega,HA.out,fun _=>HNB.out,.inr ⟨fun _ h=>absurd (HBS.out.2 h) (by decide),rfl⟩⟩,.inr HFB.out⟩
  ·obtain rfl:k=len:=by omega
   have HNK:=Lib.hid (show ∀ hk:k<R.length,¬R[k].bef n r from fun h=>absurd h (by have:=HLE.out;omega))
   have HNL:=Lib.hid (show ∀ hk:k<R.length,R[k].l≠r.l from fun h=>absurd h (by have:=HLE.out;omega))
   have HDK:=Lib.hid (show (R.drop k).map Row.val=[] from by rw [List.drop_of_length_le (by have:=HLE.out;omega)];rfl)
   have HK0:=Lib.hid (show k≤R.length from by have:=HLE.out;omega)
   by_cases h0:0<k
   ·obtain ⟨rfl,hbg,hgl⟩:=HAG.out (by have:=HLE.out;omega)
    by_cases hck:cap=k
    ·subst hck
     go_upto_region 7 with (at_builtin;refine wpList_append_que _ rfl _ _ 28 28 rfl (base:=w.heap.size) (e:=25) (size:=1) j0 (.slice none 0 0) 24 Tryz.underlying28 hj0 hy0 hy1 hy2 rfl rfl (v:=.slice (some ⟨(wr).heap.size,0,none⟩) 0 0) (n:=0) (xs:=[]) ⟨rfl,.inl ⟨_,rfl,rfl,fun a e=>by cases e;exact (hxr).le⟩⟩ (by rw [World.size_alloc];have:=(hxr).le;omega) (.slice (some ⟨g,o,none⟩) cap cap) cap ((R.take cap).map Row.val) rfl (rows_take HGE.out HK0.out cap (hxr.alloc' _)) (by unfold maxLen;omega) (by omega) ?_;rintro v5 w5 hq5 hg5 -)
     rw [Nat.zero_add,List.nil_append] at hq5
     have hx5:Ext w w5:=((hxr).alloc' _).below.grown hg5 (by rw [World.size_alloc];have:=(hxr).le;omega) (by intro k hk;simp [Value.ownBlock] at hk;have:=(hxr).le;omega)
     obtain ⟨a5,c5,rfl⟩:=hq5.slice
     have HQ5:=Lib.hid hq5
     clear hq5 hg5
     go_upto_region 8 with (at_builtin;refine wpList_append_que _ rfl _ _ 28 28 rfl (base:=w.heap.size) (e:=25) (size:=1) j0 (.slice none 0 0) 24 Tryz.underlying28 hj0 hy0 hy1 hy2 rfl rfl (v:=.slice a5 cap c5) (n:=cap) (xs:=(R.take cap).map Row.val) (by exact HQ5.out.ext (Ext.alloc _ _)) (by rw [World.size_alloc];have:=hx5.le;omega) (.slice (some ⟨w5.heap.size,0,none⟩) 1 1) 1 [.slice r.a rn r.c] rfl (by exact Src.ofSlice _ Tryz.underlying28 ⟨w5.heap.size,0,none⟩ 1 1 _ rfl (news_ok w5 _ _) (by intro u hu;simp at hu;subst hu;rfl)) (by unfold maxLen;omega) (by omega) ?_;rintro v6 w6 hq6 hg6 -)
     have hx6:Ext w w6:=(hx5.alloc' _).below.grown hg6 (by rw [World.size_alloc];have:=hx5.le;omega) HQ5.out.block
     obtain ⟨a6,c6,rfl⟩:=hq6.slice
     have HQ6:=Lib.hid hq6
     clear hq6 hg6
     go_wp2_with (at_builtin;refine wpList_append_que _ rfl _ _ 28 28 rfl (base:=w.heap.size) (e:=25) (size:=1) j0 (.slice none 0 0) 24 Tryz.underlying28 hj0 hy0 hy1 hy2 rfl rfl (v:=.slice a6 (cap+1) c6) (n:=cap+1) (xs:=(R.take cap).map Row.val++[.slice r.a rn r.c]) (by exact HQ6.out) (by have:=hx6.le;omega) (.slice (some ⟨g,o,none⟩) 0 0) 0 ((R.drop cap).map Row.val) rfl (by rw [HDK.out];exact Src.ofSlice w6 Tryz.underlying28 ⟨g,o,none⟩ 0 0 [] (by simp) (by intro _ _ h';simp at h') (by intro u hu;cases hu)) (by unfold maxLen;omega) (by omega) ?_;rintro v7 w7 hq7 hg7 -)
     have hx7:Ext w w7:=(hx6.below).grown hg7 (by have:=hx6.le;omega) HQ6.out.block
     obtain ⟨a7,c7,rfl⟩:=hq7.slice
     have HF:=Lib.hid (fun _:True=>(show RowsQ w7 base (.slice a7 (cap+1+0) c7) (R.take cap++r :: R.drop cap) from ⟨by
      have h1:(R.take cap++r :: R.drop cap).map Row.val=(R.take cap).map Row.val++[.slice r.a rn r.c]++(R.drop cap).map Row.val:=by rw [HRN.out];simp [Row.val]
      have h2:(R.take cap++r :: R.drop cap).length=cap+1+0:=by rw [List.length_append,List.length_cons,List.length_take,List.length_drop];have:=HLE.out;omega
      rw [h1,h2];exact hq7.mono HB.out,fun x hx=>by
      have h3:x=r∨x∈R:=by
       rcases List.mem_append.1 hx with h | h
       ·exact .inr (List.mem_of_mem_take h)
       ·rcases List.mem_cons.1 h with h | h
        ·exact .inl h
        ·exact .inr (List.mem_of_mem_drop h)
      rcases h3 with rfl | h3
      ·exact HRR.out.ext hx7
      ·exact (HR.out.2 x h3).ext hx7⟩))
     have HFB:=Lib.hid hq7.block
     clear hq7 hg7
     go_ret
     first | exact ⟨hx7,_,_,rfl,HF.out trivial,⟨cap,HK0.out,HA.out,HNK.out,.inr ⟨HNL.out,rfl⟩⟩,.inr HFB.out⟩ | exact ⟨hx7,_,rfl,_,HF.out trivial,⟨cap,HK0.out,HA.out,HNK.out,.inr ⟨HNL.out,rfl⟩⟩,.inr HFB.out⟩
    ·have hck':k<cap:=by omega
     go_upto_region 7 with (at_builtin;refine wpList_append_que _ rfl _ _ 28 28 rfl (base:=w.heap.size) (e:=25) (size:=1) j0 (.slice none 0 0) 24 Tryz.underlying28 hj0 hy0 hy1 hy2 rfl rfl (v:=.slice (some ⟨(wr).heap.size,0,none⟩) 0 0) (n:=0) (xs:=[]) ⟨rfl,.inl ⟨_,rfl,rfl,fun a e=>by cases e;exact (hxr).le⟩⟩ (by rw [World.size_alloc];have:=(hxr).le;omega) (.slice (some ⟨g,o,none⟩) k cap) k ((R.take k).map Row.val) rfl (rows_take HGE.out HK0.out cap (hxr.alloc' _)) (by unfold maxLen;omega) (by omega) ?_;rintro v5 w5 hq5 hg5 -)
     rw [Nat.zero_add,List.nil_append] at hq5
     have hx5:Ext w w5:=((hxr).alloc' _).below.grown hg5 (by rw [World.size_alloc];have:=(hxr).le;omega) (by intro k hk;simp [Value.ownBlock] at hk;have:=(hxr).le;omega)
     obtain ⟨a5,c5,rfl⟩:=hq5.slice
     have HQ5:=Lib.hid hq5
     clear hq5 hg5
     go_upto_region 8 with (at_builtin;refine wpList_append_que _ rfl _ _ 28 28 rfl (base:=w.heap.size) (e:=25) (size:=1) j0 (.slice none 0 0) 24 Tryz.underlying28 hj0 hy0 hy1 hy2 rfl rfl (v:=.slice a5 k c5) (n:=k) (xs:=(R.take k).map Row.val) (by exact HQ5.out.ext (Ext.alloc _ _)) (by rw [World.size_alloc];have:=hx5.le;omega) (.slice (some ⟨w5.heap.size,0,none⟩) 1 1) 1 [.slice r.a rn r.c] rfl (by exact Src.ofSlice _ Tryz.underlying28 ⟨w5.heap.size,0,none⟩ 1 1 _ rfl (news_ok w5 _ _) (by intro u hu;simp at hu;subst hu;rfl)) (by unfold maxLen;omega) (by omega) ?_;rintro v6 w6 hq6 hg6 -)
     have hx6:Ext w w6:=(hx5.alloc' _).below.grown hg6 (by rw [World.size_alloc];have:=hx5.le;omega) HQ5.out.block
     obtain ⟨a6,c6,rfl⟩:=hq6.slice
     have HQ6:=Lib.hid hq6
     clear hq6 hg6
     go_wp2_with (at_builtin;refine wpList_append_que _ rfl _ _ 28 28 rfl (base:=w.heap.size) (e:=25) (size:=1) j0 (.slice none 0 0) 24 Tryz.underlying28 hj0 hy0 hy1 hy2 rfl rfl (v:=.slice a6 (k+1) c6) (n:=k+1) (xs:=(R.take k).map Row.val++[.slice r.a rn r.c]) (by exact HQ6.out) (by have:=hx6.le;omega) (.slice (some ⟨g,o+k,none⟩) 0 (cap - k)) 0 ((R.drop k).map Row.val) rfl (by rw [HDK.out];exact Src.ofSlice w6 Tryz.underlying28 ⟨g,o+k,none⟩ 0 _ [] (by simp) (by intro _ _ h';simp at h') (by intro u hu;cases hu)) (by unfold maxLen;omega) (by omega) ?_;rintro v7 w7 hq7 hg7 -)
     have hx7:Ext w w7:=(hx6.below).grown hg7 (by have:=hx6.le;omega) HQ6.out.block
     obtain ⟨a7,c7,rfl⟩:=hq7.slice
     have HF:=Lib.hid (fun _:True=>(show RowsQ w7 base (.slice a7 (k+1+0) c7) (R.take k++r :: R.drop k) from ⟨by
      have h1:(R.take k++r :: R.drop k).map Row.val=(R.take k).map Row.val++[.slice r.a rn r.c]++(R.drop k).map Row.val:=by rw [HRN.out];simp [Row.val]
      have h2:(R.take k++r :: R.drop k).length=k+1+0:=by rw [List.length_append,List.length_cons,List.length_take,List.length_drop];have:=HLE.out;omega
      rw [h1,h2];exact hq7.mono HB.out,fun x hx=>by
      have h3:x=r∨x∈R:=by
       rcases List.mem_append.1 hx with h | h
       ·exact .inr (List.mem_of_mem_take h)
       ·rcases List.mem_cons.1 h with h | h
        ·exact .inl h
        ·exact .inr (List.mem_of_mem_drop h)
      rcases h3 with rfl | h3
      ·exact HRR.out.ext hx7
      ·exact (HR.out.2 x h3).ext hx7⟩))
     have HFB:=Lib.hid hq7.block
     clear hq7 hg7
     go_ret
     first | exact ⟨hx7,_,_,rfl,HF.out trivial,⟨k,HK0.out,HA.out,HNK.out,.inr ⟨HNL.out,rfl⟩⟩,.inr HFB.out⟩ | exact ⟨hx7,_,rfl,_,HF.out trivial,⟨k,HK0.out,HA.out,HNK.out,.inr ⟨HNL.out,rfl⟩⟩,.inr HFB.out⟩
   ·obtain rfl:k=0:=by omega
    cases a with
    | none =>
     go_upto_region 7 with (at_builtin;refine wpList_append_que _ rfl _ _ 28 28 rfl (base:=w.heap.size) (e:=25) (size:=1) j0 (.slice none 0 0) 24 Tryz.underlying28 hj0 hy0 hy1 hy2 rfl rfl (v:=.slice (some ⟨(wr).heap.size,0,none⟩) 0 0) (n:=0) (xs:=[]) ⟨rfl,.inl ⟨_,rfl,rfl,fun a e=>by cases e;exact (hxr).le⟩⟩ (by rw [World.size_alloc];have:=(hxr).le;omega) (.slice none 0 cap) 0 ((R.take 0).map Row.val) rfl (Src.ofNil _ Tryz.underlying28 _) (by unfold maxLen;omega) (by omega) ?_;rintro v5 w5 hq5 hg5 -)
     rw [Nat.zero_add,List.nil_append] at hq5
     have hx5:Ext w w5:=((hxr).alloc' _).below.grown hg5 (by rw [World.size_alloc];have:=(hxr).le;omega) (by intro k hk;simp [Value.ownBlock] at hk;have:=(hxr).le;omega)
     obtain ⟨a5,c5,rfl⟩:=hq5.slice
     have HQ5:=Lib.hid hq5
     clear hq5 hg5
     go_upto_region 8 with (at_builtin;refine wpList_append_que _ rfl _ _ 28 28 rfl (base:=w.heap.size) (e:=25) (size:=1) j0 (.slice none 0 0) 24 Tryz.underlying28 hj0 hy0 hy1 hy2 rfl rfl (v:=.slice a5 0 c5) (n:=0) (xs:=(R.take 0).map Row.val) (by exact HQ5.out.ext (Ext.alloc _ _)) (by rw [World.size_alloc];have:=hx5.le;omega) (.slice (some ⟨w5.heap.size,0,none⟩) 1 1) 1 [.slice r.a rn r.c] rfl (by exact Src.ofSlice _ Tryz.underlying28 ⟨w5.heap.size,0,none⟩ 1 1 _ rfl (news_ok w5 _ _) (by intro u hu;simp at hu;subst hu;rfl)) (by unfold maxLen;omega) (by omega) ?_;rintro v6 w6 hq6 hg6 -)
     have hx6:Ext w w6:=(hx5.alloc' _).below.grown hg6 (by rw [World.size_alloc];have:=hx5.le;omega) HQ5.out.block
     obtain ⟨a6,c6,rfl⟩:=hq6.slice
     have HQ6:=Lib.hid hq6
     clear hq6 hg6
     go_wp2_with (at_builtin;refine wpList_append_que _ rfl _ _ 28 28 rfl (base:=w.heap.size) (e:=25) (size:=1) j0 (.slice none 0 0) 24 Tryz.underlying28 hj0 hy0 hy1 hy2 rfl rfl (v:=.slice a6 (0+1) c6) (n:=0+1) (xs:=(R.take 0).map Row.val++[.slice r.a rn r.c]) (by exact HQ6.out) (by have:=hx6.le;omega) (.slice none 0 cap) 0 ((R.drop 0).map Row.val) rfl (by rw [HDK.out];exact Src.ofNil _ Tryz.underlying28 _) (by unfold maxLen;omega) (by omega) ?_;rintro v7 w7 hq7 hg7 -)
     have hx7:Ext w w7:=(hx6.below).grown hg7 (by have:=hx6.le;omega) HQ6.out.block
     obtain ⟨a7,c7,rfl⟩:=hq7.slice
     have HF:=Lib.hid (fun _:True=>(show RowsQ w7 base (.slice a7 (0+1+0) c7) (R.take 0++r :: R.drop 0) from ⟨by
      have h1:(R.take 0++r :: R.drop 0).map Row.val=(R.take 0).map Row.val++[.slice r.a rn r.c]++(R.drop 0).map Row.val:=by rw [HRN.out];simp [Row.val]
      have h2:(R.take 0++r :: R.drop 0).length=0+1+0:=by rw [List.length_append,List.length_cons,List.length_take,List.length_drop];have:=HLE.out;omega
      rw [h1,h2];exact hq7.mono HB.out,fun x hx=>by
      have h3:x=r∨x∈R:=by
       rcases List.mem_append.1 hx with h | h
       ·exact .inr (List.mem_of_mem_take h)
       ·rcases List.mem_cons.1 h with h | h
        ·exact .inl h
        ·exact .inr (List.mem_of_mem_drop h)
      rcases h3 with rfl | h3
      ·exact HRR.out.ext hx7
      ·exact (HR.out.2 x h3).ext hx7⟩))
     have HFB:=Lib.hid hq7.block
     clear hq7 hg7
     go_ret
     first | exact ⟨hx7,_,_,rfl,HF.out trivial,⟨0,HK0.out,HA.out,HNK.out,.inr ⟨HNL.out,rfl⟩⟩,.inr HFB.out⟩ | exact ⟨hx7,_,rfl,_,HF.out trivial,⟨0,HK0.out,HA.out,HNK.out,.inr ⟨HNL.out,rfl⟩⟩,.inr HFB.out⟩
    | some ad =>
     go_upto_region 7 with (at_builtin;refine wpList_append_que _ rfl _ _ 28 28 rfl (base:=w.heap.size) (e:=25) (size:=1) j0 (.slice none 0 0) 24 Tryz.underlying28 hj0 hy0 hy1 hy2 rfl rfl (v:=.slice (some ⟨(wr).heap.size,0,none⟩) 0 0) (n:=0) (xs:=[]) ⟨rfl,.inl ⟨_,rfl,rfl,fun a e=>by cases e;exact (hxr).le⟩⟩ (by rw [World.size_alloc];have:=(hxr).le;omega) (.slice (some ad) 0 cap) 0 ((R.take 0).map Row.val) rfl (Src.ofSlice _ Tryz.underlying28 ad 0 _ [] (by simp) (by intro _ _ h';simp at h') (by intro u hu;cases hu)) (by unfold maxLen;omega) (by omega) ?_;rintro v5 w5 hq5 hg5 -)
     rw [Nat.zero_add,List.nil_append] at hq5
     have hx5:Ext w w5:=((hxr).alloc' _).below.grown hg5 (by rw [World.size_alloc];have:=(hxr).le;omega) (by intro k hk;simp [Value.ownBlock] at hk;have:=(hxr).le;omega)
     obtain ⟨a5,c5,rfl⟩:=hq5.slice
     have HQ5:=Lib.hid hq5
     clear hq5 hg5
     go_upto_region 8 with (at_builtin;refine wpList_append_que _ rfl _ _ 28 28 rfl (base:=w.heap.size) (e:=25) (size:=1) j0 (.slice none 0 0) 24 Tryz.underlying28 hj0 hy0 hy1 hy2 rfl rfl (v:=.slice a5 0 c5) (n:=0) (xs:=(R.take 0).map Row.val) (by exact HQ5.out.ext (Ext.alloc _ _)) (by rw [World.size_alloc];have:=hx5.le;omega) (.slice (some ⟨w5.heap.size,0,none⟩) 1 1) 1 [.slice r.a rn r.c] rfl (by exact Src.ofSlice _ Tryz.underlying28 ⟨w5.heap.size,0,none⟩ 1 1 _ rfl (news_ok w5 _ _) (by intro u hu;simp at hu;subst hu;rfl)) (by unfold maxLen;omega) (by omega) ?_;rintro v6 w6 hq6 hg6 -)
     have hx6:Ext w w6:=(hx5.alloc' _).below.grown hg6 (by rw [World.size_alloc];have:=hx5.le;omega) HQ5.out.block
     obtain ⟨a6,c6,rfl⟩:=hq6.slice
     have HQ6:=Lib.hid hq6
     clear hq6 hg6
     go_wp2_with (at_builtin;refine wpList_append_que _ rfl _ _ 28 28 rfl (base:=w.heap.size) (e:=25) (size:=1) j0 (.slice none 0 0) 24 Tryz.underlying28 hj0 hy0 hy1 hy2 rfl rfl (v:=.slice a6 (0+1) c6) (n:=0+1) (xs:=(R.take 0).map Row.val++[.slice r.a rn r.c]) (by exact HQ6.out) (by have:=hx6.le;omega) (.slice (some ad) 0 cap) 0 ((R.drop 0).map Row.val) rfl (by rw [HDK.out];exact Src.ofSlice _ Tryz.underlying28 ad 0 _ [] (by simp) (by intro _ _ h';simp at h') (by intro u hu;cases hu)) (by unfold maxLen;omega) (by omega) ?_;rintro v7 w7 hq7 hg7 -)
     have hx7:Ext w w7:=(hx6.below).grown hg7 (by have:=hx6.le;omega) HQ6.out.block
     obtain ⟨a7,c7,rfl⟩:=hq7.slice
     have HF:=Lib.hid (fun _:True=>(show RowsQ w7 base (.slice a7 (0+1+0) c7) (R.take 0++r :: R.drop 0) from ⟨by
      have h1:(R.take 0++r :: R.drop 0).map Row.val=(R.take 0).map Row.val++[.slice r.a rn r.c]++(R.drop 0).map Row.val:=by rw [HRN.out];simp [Row.val]
      have h2:(R.take 0++r :: R.drop 0).length=0+1+0:=by rw [List.length_append,List.length_cons,List.length_take,List.length_drop];have:=HLE.out;omega
      rw [h1,h2];exact hq7.mono HB.out,fun x hx=>by
      have h3:x=r∨x∈R:=by
       rcases List.mem_append.1 hx with h | h
       ·exact .inr (List.mem_of_mem_take h)
       ·rcases List.mem_cons.1 h with h | h
        ·exact .inl h
        ·exact .inr (List.mem_of_mem_drop h)
      rcases h3 with rfl | h3
      ·exact HRR.out.ext hx7
      ·exact (HR.out.2 x h3).ext hx7⟩))
     have HFB:=Lib.hid hq7.block
     clear hq7 hg7
     go_ret
     first | exact ⟨hx7,_,_,rfl,HF.out trivial,⟨0,HK0.out,HA.out,HNK.out,.inr ⟨HNL.out,rfl⟩⟩,.inr HFB.out⟩ | exact ⟨hx7,_,rfl,_,HF.out trivial,⟨0,HK0.out,HA.out,HNK.out,.inr ⟨HNL.out,rfl⟩⟩,.inr HFB.out⟩
def CutL (T:Tr) (l:List Nat):Prop:=l.length=T.n∧T.CutOk (fn l)
theorem upC_tot {c:Nat→Nat}:∀ {n p:Nat},p<n→tot (upC c p) n=tot c n+1
 | 0,_,h => by omega
 | n+1,p,h => by
  show tot (upC c p) n+upC c p n=tot c n+c n+1
  by_cases e:p=n
  ·subst e
   have h1:tot (upC c p) p=tot c p:=Nat.le_antisymm (totS_le fun q hq=>by rw [upC_other (by omega)];exact Nat.le_refl _) (totS_le fun q _=>upC_ge c p q)
   rw [h1,upC_same];omega
  ·have:=upC_tot (c:=c) (n:=n) (p:=p) (by omega)
   rw [this,upC_other (fun h=>e h.symm)];omega
theorem tot_same {f g:Nat→Nat} {n:Nat} (hle:∀ p,p<n→f p≤g p) (he:tot f n=tot g n):∀ p,p<n→f p=g p:=fun p hp=>by
 have h1:=hle p hp
 refine Nat.le_antisymm h1 (Nat.le_of_not_lt fun hlt=>?_)
 have:=totS_lt hle hp hlt
 omega
theorem totS_congr {f g:Nat→Nat} {n:Nat} (h:∀ p,p<n→f p=g p):tot f n=tot g n:=Nat.le_antisymm (totS_le fun p hp=>by rw [h p hp];exact Nat.le_refl _) (totS_le fun p hp=>by rw [h p hp];exact Nat.le_refl _)
theorem Tr.CutOk.prev {T:Tr} (hV:T.Valid) {c:Nat→Nat} (hc:T.CutOk c):∀ (m:Nat) (d:Nat→Nat),T.CutOk d→(∀ q,q<T.n→d q≤c q)→tot c T.n=tot d T.n+m+1→∃ d p,T.CutOk d∧p<T.n∧T.On d p∧∀ q,q<T.n→upC d p q=c q
 | m,d,hd,hle,ht => by
  have hex:∃ p,p<T.n∧d p<c p:=Classical.byContradiction fun hn=>by
   have:tot c T.n≤tot d T.n:=totS_le fun p hp=>Nat.le_of_not_lt fun h=>hn ⟨p,hp,h⟩
   omega
  obtain ⟨p,hp,hlt⟩:=hex
  obtain ⟨q,hq,h1,h2⟩:=Tr.on_ex hV hc hp hlt
  have hup:=hd.up h2
  have hle2:∀ r,r<T.n→upC d q r≤c r:=fun r hr=>by
   by_cases e:r=q
   ·subst e;rw [upC_same];exact h1
   ·rw [upC_other e];exact hle r hr
  have ht2:=upC_tot (c:=d) hq
  cases m with
  | zero => exact ⟨d,q,hd,hq,h2,tot_same hle2 (by omega)⟩
  | succ m => exact Tr.CutOk.prev hV hc m (upC d q) hup hle2 (by omega)
noncomputable def Tr.nextOf (T:Tr) (l:List Nat):List (List Nat):=(T.onL (fn l) T.n).map fun p=>rowOf T.n (upC (fn l) p)
theorem Tr.mem_nextOf {T:Tr} {l m:List Nat}:m∈T.nextOf l↔∃ p,p<T.n∧T.On (fn l) p∧m=rowOf T.n (upC (fn l) p):=by
 unfold Tr.nextOf
 rw [List.mem_map]
 constructor
 ·rintro ⟨p,hp,rfl⟩;exact ⟨p,(Tr.mem_onL.1 hp).1,(Tr.mem_onL.1 hp).2,rfl⟩
 ·rintro ⟨p,h1,h2,rfl⟩;exact ⟨p,Tr.mem_onL.2 ⟨h1,h2⟩,rfl⟩
theorem CutL.next {T:Tr} {l m:List Nat} (h:CutL T l) (hm:m∈T.nextOf l):CutL T m∧tot (fn m) T.n=tot (fn l) T.n+1:=by
 obtain ⟨p,hp,ho,rfl⟩:=Tr.mem_nextOf.1 hm
 refine ⟨⟨rowOf_len _ _,(h.2.up ho).congr fun q hq=>fn_rowOf hq⟩,?_⟩
 rw [totS_congr (g:=upC (fn l) p) fun q hq=>fn_rowOf hq,upC_tot hp]
theorem CutL.prev {T:Tr} (hV:T.Valid) {m:List Nat} (h:CutL T m) (h0:0<tot (fn m) T.n):∃ l,CutL T l∧tot (fn l) T.n+1=tot (fn m) T.n∧m∈T.nextOf l:=by
 have hz:tot (fun _=>0) T.n=0:=by
  have:∀ n,tot (fun _=>0) n=0:=fun n=>by induction n with | zero=>rfl | succ n ih=>exact ih
  exact this _
 obtain ⟨d,p,hd,hp,ho,he⟩:=h.2.prev hV (tot (fn m) T.n - 1) (fun _=>0) (Tr.CutOk.zero T) (fun _ _=>Nat.zero_le _) (by omega)
 have hf:∀ q,q<T.n→fn (rowOf T.n d) q=d q:=fun q hq=>fn_rowOf hq
 have hc:CutL T (rowOf T.n d):=⟨rowOf_len _ _,hd.congr hf⟩
 have hup:∀ q,q<T.n→upC (fn (rowOf T.n d)) p q=upC d p q:=fun q hq=>by unfold upC;rw [hf q hq]
 have hon:T.On (fn (rowOf T.n d)) p:=Tr.On.of_up hV hp ((hd.up ho).congr hup)
 refine ⟨rowOf T.n d,hc,?_,Tr.mem_nextOf.2 ⟨p,hp,hon,?_⟩⟩
 ·have h1:=upC_tot (c:=d) hp
  rw [totS_congr he] at h1
  rw [totS_congr hf];omega
 ·exact fn_ext (by rw [h.1, rowOf_len]) fun q hq => by
    rw [h.1] at hq
    rw [fn_rowOf hq,hup q hq,he q hq]
theorem level_next {T:Tr} (hV:T.Valid) {P:List Nat→Prop} {k:Nat} (hP:∀ l,P l↔(CutL T l∧tot (fn l) T.n=k)) (m:List Nat):(∃ l,P l∧m∈T.nextOf l)↔(CutL T m∧tot (fn m) T.n=k+1):=by
 constructor
 ·rintro ⟨l,hl,hm⟩
  obtain ⟨h1,h2⟩:=(hP l).1 hl
  obtain ⟨h3,h4⟩:=h1.next hm
  exact ⟨h3,by omega⟩
 ·rintro ⟨h1,h2⟩
  obtain ⟨l,h3,h4,h5⟩:=h1.prev hV (by omega)
  exact ⟨l,(hP l).2 ⟨h3,by omega⟩,h5⟩
theorem level_none {T:Tr} (hV:T.Valid) {k:Nat} (hn:∀ l,¬(CutL T l∧tot (fn l) T.n=k)):∀ (j:Nat) (l:List Nat),CutL T l→tot (fn l) T.n≠k+j
 | 0,l,h,he => hn l ⟨h,he⟩
 | j+1,l,h,he => by
  obtain ⟨m,h1,h2,_⟩:=h.prev hV (by omega)
  exact level_none hV hn j m h1 (by omega)
theorem CutL.small {T:Tr} (hV:T.Valid) {l:List Nat} (h:CutL T l) {p:Nat} (hp:p≤T.n):tot (fn l) p≤512:=by
 have h1:tot (fn l) p≤tot T.en p:=totS_le fun q hq=>h.2.le q (by omega)
 have h2:=tot_small (f:=T.en) (c:=64) (n:=p) (fun q hq=>hV.en64 (by omega))
 have:=hV.n8
 omega
theorem CutL.val {T:Tr} (hV:T.Valid) {l:List Nat} (h:CutL T l) {p:Nat} (hp:p<T.n):fn l p≤64:=Nat.le_trans (h.2.le p hp) (hV.en64 hp)
theorem CutL.ok {T:Tr} (hV:T.Valid) {r:Row} (h:CutL T r.l):RowOk T.n r:=⟨h.1,fun p hp=>by have:=h.small hV hp;omega⟩
def IsCuts (T:Tr) (L:List (List Nat)):Prop:=L.Pairwise (fun a b=>befP T.n (fn a) (fn b))∧∀ l,l∈L↔CutL T l
theorem NumAt.blk {w w':World} {n:Nat} {a:Option Addr} {g o:Nat} {v:Nat→Int} (h:NumAt w n a g o v) (e:w'.heap[g]?=w.heap[g]?) (hl:w.heap.size≤w'.heap.size):NumAt w' n a g o v:=
 ⟨h.hn,h.pa,fun h0=>Nat.lt_of_lt_of_le (h.pb h0) hl,fun k hk=>(World.cell?_of_block (w:=w) (a:=⟨g,o+k,none⟩) e).trans (h.c k hk)⟩
theorem RowsQ.app {w w':World} {base:Nat} {v v':Value} {R S:List Row} (hR:RowsQ w base v R) (hS:∀ x∈S,x.At w) (hp:∀ x∈R++S,0<x.l.length) (ha:∀ x∈R++S,v.ownBlock≠some x.g) (hq:Que w' base 1 v' (R.length+S.length) (R.map Row.val++S.map Row.val)) (hg:w.grownBy w' v.ownBlock):RowsQ w' base v' (R++S):=by
 refine ⟨by rw [List.length_append,List.map_append];exact hq,fun x hx=>?_⟩
 have h1:x.At w:=(List.mem_append.1 hx).elim (hR.2 x) (hS x)
 exact NumAt.blk h1 (hg.block x.g (NumAt.pb h1 (hp x hx)) (fun e=>ha x hx e.symm)) hg.size
theorem RowsQ.app_apart {w:World} {v v':Value} {R:List Row} (hA:∀ x∈R,x.At w) (hp:∀ x∈R,0<x.l.length) (ha:∀ x∈R,v.ownBlock≠some x.g) (ho:v'.ownBlock=v.ownBlock∨v'.ownBlock=some w.heap.size):∀ x∈R,v'.ownBlock≠some x.g:=fun x hx e=>by
 rcases ho with h | h
 ·exact ha x hx (h▸e)
 ·rw [h] at e
  have:=NumAt.pb (hA x hx) (hp x hx)
  have:w.heap.size=x.g:=by simpa using e
  omega
theorem isCut_iff {T:Tr} (hV:T.Valid) {c:Nat→Nat}:T.IsCut T.n (natV c)↔T.CutOk c:=by
 refine ⟨fun h=>⟨fun p hp=>?_,fun x hx hl h3=>?_⟩,cut_isCut hV⟩
 ·have:=h.2.1 p hp
  have:(c p:Int)≤T.en p:=this.2
  omega
 ·have h1:=h.2.2 x hx (by show (x.2:Int)<(c x.1:Int);omega) h3
  have h2:((T.sndN x).2:Int)<(c (T.sndN x).1:Int):=h1
  omega
def RnextPost (T:Tr) (l:List Nat) (w:World) (e:Ending) (w':World):Prop:=Ext w w'∧∃ v R,e=.returned v∧RowsQ w' w.heap.size v R∧R.map Row.l=T.nextOf l∧∀ x∈R,w.heap.size≤x.g
set_option maxHeartbeats 4000000 in
theorem rnext_any (w : World) (T : TM) (hT : T.At w) (hV : T.toTr.Valid) (r : Row) (hr : r.At w) (hc : CutL T.toTr r.l) :
    Calls Tryz.prog 78 #[T.val,r.val] w (RnextPost T.toTr r.l w):=by
 obtain ⟨j0,hj0,hy0,hy1,hy2⟩:=info_parts infoInts1
 have hn8:=hV.n8
 have hn1:=hV.n1
 have hr':NumAt w T.n r.a r.g r.o (natV (fn r.l)):=by have:=hr;unfold Row.At at this;rw [hc.1] at this;exact this
 have HST:=Lib.hid (fun W (x:Ext w W) p (hp:p<T.n)=>rstep_any W r.a r.g r.o T.n r.c (fn r.l) (hr'.ext x) p hp (by omega) (by have:=hc.val hV hp;omega))
 have HIS:=Lib.hid (fun W (x:Ext w W) g o cap c hC=>ris23_any W T (hT.ext x) hV (some ⟨g,o,none⟩) g o T.n cap (natV c) hC)
 have HOK:=Lib.hid hc
 have HV:=Lib.hid hV
 have HT:=Lib.hid hT
 have HR:=Lib.hid hr'
 unfold RnextPost
 simp only [Row.val]
 rw [hc.1]
 obtain ⟨ta,hta⟩:∃ z,z=T.a:=⟨_,rfl⟩
 obtain rfl:ta=some ⟨T.b,T.off,none⟩:=by rw [hta];exact hT.P.pa (by omega)
 obtain ⟨ra,hra⟩:∃ z,z=r.a:=⟨_,rfl⟩
 obtain rfl:ra=some ⟨r.g,r.o,none⟩:=by rw [hra];exact hr'.pa (by omega)
 simp only [TM.val,←hta] at HIS ⊢
 rw [←hra] at HST ⊢
 obtain ⟨g,hg⟩:∃ g,g=r.g:=⟨_,rfl⟩
 obtain ⟨o,ho⟩:∃ g,g=r.o:=⟨_,rfl⟩
 obtain ⟨rc,hrc⟩:∃ g,g=r.c:=⟨_,rfl⟩
 rw [←hg,←ho] at HR
 rw [←hg,←ho,←hrc] at HST ⊢
 obtain ⟨l,hl⟩:∃ l,l=r.l:=⟨_,rfl⟩
 rw [←hl] at HR HST HOK ⊢
 clear hT hV hc hr hr' hta hra hg ho hrc hl
 go_enter Tryz.func78,Tryz.ntmps78
 go_upto_region 1 with fail
 refine boxed1 (w:=w) (G:=fun x=>Code.wp _ _ _ _ x) ?_
 intro w1 hx1 hs1 ⟨l0,c0,_,_⟩
 have hx11:Ext w1 w1:=Ext.refl _
 clear hs1
 go_wp2_with fail
 go_loopg [5,6] T.n (fun gg v5 v6 wr=>∃ (k:Nat) (R:List Row),k≤T.n∧gg=T.n - k∧v6=.int .i64 k∧RowsQ wr w1.heap.size v5 R∧R.map Row.l=(T.toTr.onL (fn l) k).map (fun p=>rowOf T.n (upC (fn l) p))∧(∀ x∈R,v5.ownBlock≠some x.g∧w1.heap.size≤x.g)∧(∀ b,v5.ownBlock=some b→b<wr.heap.size)∧Ext w1 wr)
 case atStart=>exact ⟨0,[],by omega,rfl,rfl,RowsQ.nil _ _,rfl,(fun x h=>by cases h),(fun b h=>by cases h),hx11⟩
 case round=>
  obtain ⟨k,R,hk,rfl,rfl,hq,hm,ha,hob,hxr⟩:=hrel
  have HOB:=Lib.hid hob
  have hxw:=hx1.trans hxr
  obtain ⟨a5,c5,rfl⟩:=hq.1.slice
  have HM:=Lib.hid hm
  have HA:=Lib.hid ha
  have HLN:=Lib.hid (show R.length=(T.toTr.onL (fn l) k).length from by have:=congrArg List.length hm;simpa using this)
  obtain ⟨ln,hln⟩:∃ z,z=R.length:=⟨_,rfl⟩
  have hlm:ln≤8:=by rw [hln,HLN.out];have:=T.toTr.onL_len (fn l) k;omega
  have HLE:=Lib.hid hln
  rw [←hln] at hq HA HOB ⊢
  have HQ:=Lib.hid hq
  have HRL:=Lib.hid (show ∀ x∈R,x.l.length=T.n from fun x hx=>by
   have h1:x.l∈R.map Row.l:=List.mem_map.2 ⟨x,hx,rfl⟩
   rw [hm] at h1
   obtain ⟨p,_,h2⟩:=List.mem_map.1 h1
   rw [←h2,rowOf_len])
  clear hq hm ha hob hln hx11
  by_cases hlt:k<T.n
  ·have hlt':(k:Int)<(T.n:Int):=by omega
   have hen:=HV.out.en64 hlt
   have hle:=HOK.out.2.le k hlt
   have pb:=HT.out.P.pb (by omega)
   have p2:∀ w',Ext w w'→w'.cell? ⟨T.b,T.off+k*3+2,none⟩=some (.slice (T.ea k) (T.en k) (T.ec k)):=fun w' h=>HT.out.P.p2 w' h k hlt
   have gb:∀ w',Ext w w'→g<w'.heap.size:=fun w' x=>Nat.lt_of_lt_of_le (HR.out.pb (by omega)) x.le
   obtain ⟨ck,hck⟩:∃ ck,ck=fn l k:=⟨_,rfl⟩
   have gc:∀ w',Ext w w'→w'.cell? ⟨g,o+k,none⟩=some (.int .i64 (ck:Int)):=fun w' x=>by rw [hck];exact x.cell (HR.out.c k hlt)
   by_cases hl:ck<T.en k
   ·have d1:decide ((ck:Int)<(T.en k:Int))=true:=decide_eq_true (by omega)
    have HLC:=Lib.hid hck
    have hst:=HST.out wr.drew hxw.drew k hlt
    clear hck
    go_upto_region 5 with fail
    refine wp_region_held_drew (S:=fun w'=>Ext wr w') (by kernel_rfl) (Ext.refl _).drew (fun hHeld=>?_)
    refine hQ 0 (v:=?_) rfl (y:=.inl ⟨by rfl,?_⟩) (h:=?_)
    rotate_left
    ·(intro w' hSw;(try dsimp only at hSw);have hS1:=hxr.trans hSw;have hS0:=hxw.trans hSw;have hSS:=Ext.refl w';go_simp;try with_reducible rfl)
    try simp only [Act.put,zA,zB,zC]
    refine hQ 1 (v:=?_) rfl (y:=.inl ⟨by rfl,?_⟩) (h:=?_)
    rotate_left
    ·(intro w' hSw;(try dsimp only at hSw);have hS1:=hxr.trans hSw;have hS0:=hxw.trans hSw;have hSS:=Ext.refl w';go_simp;try with_reducible rfl)
    try simp only [Act.put,zA,zB,zC]
    refine hQ 2 (v:=?_) rfl (y:=.inl ⟨by rfl,?_⟩) (h:=?_)
    rotate_left
    ·(intro w' hSw;(try dsimp only at hSw);have hS1:=hxr.trans hSw;have hS0:=hxw.trans hSw;have hSS:=Ext.refl w';go_simp;try with_reducible rfl)
    try simp only [Act.put,zA,zB,zC]
    refine hQ 3 (v:=?_) rfl (y:=.inl ⟨by rfl,?_⟩) (h:=?_)
    rotate_left
    ·(intro w' hSw;(try dsimp only at hSw);have hS1:=hxr.trans hSw;have hS0:=hxw.trans hSw;have hSS:=Ext.refl w';go_simp;try with_reducible rfl)
    try simp only [Act.put,zA,zB,zC]
    refine hQ 4 (v:=?_) rfl (y:=.inl ⟨by rfl,?_⟩) (h:=?_)
    rotate_left
    ·(intro w' hSw;(try dsimp only at hSw);have hS1:=hxr.trans hSw;have hS0:=hxw.trans hSw;have hSS:=Ext.refl w';go_simp;try with_reducible rfl)
    try simp only [Act.put,zA,zB,zC]
    refine hQ 5 (v:=?_) rfl (y:=.inl ⟨by rfl,?_⟩) (h:=?_)
    rotate_left
    ·(intro w' hSw;(try dsimp only at hSw);have hS1:=hxr.trans hSw;have hS0:=hxw.trans hSw;have hSS:=Ext.refl w';go_simp;try with_reducible rfl)
    try simp only [Act.put,zA,zB,zC]
    refine hQ 6 (v:=?_) rfl (y:=.inl ⟨by rfl,?_⟩) (h:=?_)
    rotate_left
    ·(intro w' hSw;(try dsimp only at hSw);have hS1:=hxr.trans hSw;have hS0:=hxw.trans hSw;have hSS:=Ext.refl w';go_simp;try with_reducible rfl)
    try simp only [Act.put,zA,zB,zC]
    refine hQ 7 (v:=?_) rfl (y:=.inl ⟨by rfl,?_⟩) (h:=?_)
    rotate_left
    ·(intro w' hSw;(try dsimp only at hSw);have hS1:=hxr.trans hSw;have hS0:=hxw.trans hSw;have hSS:=Ext.refl w';go_simp;try with_reducible rfl)
    try simp only [Act.put,zA,zB,zC]
    refine hQ 8 (v:=?_) rfl (y:=.inl ⟨by rfl,?_⟩) (h:=?_)
    rotate_left
    ·(intro w' hSw;(try dsimp only at hSw);have hS1:=hxr.trans hSw;have hS0:=hxw.trans hSw;have hSS:=Ext.refl w';go_simp;try with_reducible rfl)
    try simp only [Act.put,zA,zB,zC]
    refine hQ 9 (v:=?_) rfl (y:=.inl ⟨by rfl,?_⟩) (h:=?_)
    rotate_left
    ·(intro w' hSw;(try dsimp only at hSw);have hS1:=hxr.trans hSw;have hS0:=hxw.trans hSw;have hSS:=Ext.refl w';go_simp;try with_reducible rfl)
    try simp only [Act.put,zA,zB,zC]
    refine hQ 10 (v:=?_) rfl (y:=.inl ⟨by rfl,?_⟩) (h:=?_)
    rotate_left
    ·(intro w' hSw;(try dsimp only at hSw);have hS1:=hxr.trans hSw;have hS0:=hxw.trans hSw;have hSS:=Ext.refl w';go_simp;try with_reducible rfl)
    try simp only [Act.put,zA,zB,zC]
    refine hQ 11 (v:=?_) rfl (y:=.inl ⟨by rfl,?_⟩) (h:=?_)
    rotate_left
    ·(intro w' hSw;(try dsimp only at hSw);have hS1:=hxr.trans hSw;have hS0:=hxw.trans hSw;have hSS:=Ext.refl w';go_simp;try with_reducible rfl)
    try simp only [Act.put,zA,zB,zC]
    refine hQ 12 (v:=?_) rfl (y:=.inl ⟨by rfl,?_⟩) (h:=?_)
    rotate_left
    ·(intro w' hSw;(try dsimp only at hSw);have hS1:=hxr.trans hSw;have hS0:=hxw.trans hSw;have hSS:=Ext.refl w';go_simp;try with_reducible rfl)
    try simp only [Act.put,zA,zB,zC]
    refine hQ 13 (v:=?_) rfl (y:=.inl ⟨by rfl,?_⟩) (h:=?_)
    rotate_left
    ·(intro w' hSw;(try dsimp only at hSw);have hS1:=hxr.trans hSw;have hS0:=hxw.trans hSw;have hSS:=Ext.refl w';go_simp;try with_reducible rfl)
    try simp only [Act.put,zA,zB,zC]
    refine hQ 14 (v:=?_) rfl (y:=.inl ⟨by rfl,?_⟩) (h:=?_)
    rotate_left
    ·(intro w' hSw;(try dsimp only at hSw);have hS1:=hxr.trans hSw;have hS0:=hxw.trans hSw;have hSS:=Ext.refl w';go_simp;try with_reducible rfl)
    try simp only [Act.put,zA,zB,zC]
    refine hQ 15 (v:=?_) rfl (y:=.inl ⟨by rfl,?_⟩) (h:=?_)
    rotate_left
    ·(intro w' hSw;(try dsimp only at hSw);have hS1:=hxr.trans hSw;have hS0:=hxw.trans hSw;have hSS:=Ext.refl w';go_simp;try with_reducible rfl)
    try simp only [Act.put,zA,zB,zC]
    refine wpAnyH_ready (rs:=[16]) (by kernel_rfl) (by simp) ?_
    refine AllReadyH.cons rfl (fun K hK=>?_) AllReadyH.nil
    go_simp
    go_at_call 130
    refine hst.mono ?_
    rintro e w2 ⟨hx2,g2,o2,c2,rfl,hN2,hg2⟩
    have hxr2:Ext wr w2:=(Ext.refl wr).drew.trans hx2
    refine hK.out _ _ ?_ (fun hHeld2=>?_)
    ·exact hxr2
    clear hK K
    try simp only [Act.put,zA,zB,zC]
    have his:=HIS.out w2 (hxw.trans hxr2) g2 o2 c2 _ hN2
    refine wpAnyH_ready (rs:=[17]) (by kernel_rfl) (by simp) ?_
    refine AllReadyH.cons rfl (fun K hK=>?_) AllReadyH.nil
    go_simp
    go_at_call 43
    refine his.mono ?_
    rintro e w3 ⟨bi,rfl,hbi,hx3⟩
    have hxr3:=hxr2.trans hx3
    refine hK.out _ _ ?_ (fun hHeld3=>?_)
    ·exact hxr3
    clear hK K
    try simp only [Act.put,zA,zB,zC]
    refine hQ 18 (v:=?_) rfl (y:=.inl ⟨by rfl,?_⟩) (h:=?_)
    rotate_left
    ·(intro w' hSw;(try dsimp only at hSw);have hS1:=hxr.trans hSw;have hS0:=hxw.trans hSw;have hSS:=Ext.refl w';go_simp;try with_reducible rfl)
    try simp only [Act.put,zA,zB,zC]
    refine wpAnyH_done (by kernel_rfl) ?_ _
    have HBI:=Lib.hid (show bi=true↔T.toTr.On (fn l) k from hbi.trans ((isCut_iff HV.out).trans ⟨fun h=>Tr.On.of_up HV.out hlt h,fun h=>HOK.out.2.up h⟩))
    clear hHeld hHeld2 hHeld3 hst his hbi hN2 hg2 hx2 hx3 hxr2
    have hx13:=hxr.trans hxr3
    have hxw3:=hxw.trans hxr3
    cases bi with
    | true =>
     have HSN:=Lib.hid (Tr.onL_yes (HBI.out.1 rfl))
     go_upto_region 4 with (first
      | (go_at_call 130;refine (HST.out w3 hxw3 k hlt).mono ?_;rintro e w4 ⟨hx4,g4,o4,c4,rfl,hN4,hg4⟩)
      | (at_builtin;refine wpList_append_que _ rfl _ _ 28 28 rfl (base:=w1.heap.size) (e:=25) (size:=1) j0 (.slice none 0 0) 24 Tryz.underlying28 hj0 hy0 hy1 hy2 rfl rfl (v:=.slice a5 ln c5) (n:=ln) (xs:=R.map Row.val) (by have h1:=(HQ.out.1.ext (hxr3.trans hx4)).ext (Ext.alloc w4 (.cells #[.slice (some ⟨g4,o4,none⟩) T.n c4] 25));rw [←HLE.out] at h1;exact h1) (by rw [World.size_alloc];have:=hx13.le;have:=hx4.le;omega) (.slice (some ⟨w4.heap.size,0,none⟩) 1 1) 1 [.slice (some ⟨g4,o4,none⟩) T.n c4] rfl (by exact Src.ofSlice _ Tryz.underlying28 ⟨w4.heap.size,0,none⟩ 1 1 _ rfl (news_ok w4 _ _) (by intro u hu;simp at hu;subst hu;rfl)) (by unfold maxLen;omega) (by omega) ?_;rintro v6 w6 hq6 hg6 ho6))
     have HHX:=Lib.hid (And.intro (hxr3.trans hx4) (hxw3.trans hx4))
     have HN:=Lib.hid (show Row.At ⟨rowOf T.n (upC (fn l) k),some ⟨g4,o4,none⟩,g4,o4,c4⟩ w4 from by
      show NumAt w4 (rowOf T.n (upC (fn l) k)).length _ g4 o4 (natV (fn (rowOf T.n (upC (fn l) k))))
      rw [rowOf_len]
      exact ⟨hN4.hn,hN4.pa,hN4.pb,fun j hj=>by rw [hN4.c j hj];show _=some (Value.int .i64 ((fn (rowOf T.n (upC (fn l) k)) j:Nat):Int));rw [fn_rowOf hj]⟩)
     have HA4:=Lib.hid (show ∀ x∈R++[⟨rowOf T.n (upC (fn l) k),some ⟨g4,o4,none⟩,g4,o4,c4⟩],(Value.slice a5 ln c5).ownBlock≠some x.g∧w1.heap.size≤x.g∧0<x.l.length from fun x hx=>by
      rcases List.mem_append.1 hx with h | h
      ·exact ⟨(HA.out x h).1,(HA.out x h).2,by rw [HRL.out x h];omega⟩
      ·obtain rfl:=List.mem_singleton.1 h
       refine ⟨fun e=>?_,by show w1.heap.size≤g4;have:=hx13.le;omega,by show 0<(rowOf T.n _).length;rw [rowOf_len];omega⟩
       have h1:=HOB.out _ e
       have h2:wr.heap.size≤w3.heap.size:=hxr3.le
       dsimp only at h1;omega)
     have hRn:=RowsQ.app (w:=w4.alloc (.cells #[.slice (some ⟨g4,o4,none⟩) T.n c4] 25)) (v:=.slice a5 ln c5) (R:=R) (S:=[⟨rowOf T.n (upC (fn l) k),some ⟨g4,o4,none⟩,g4,o4,c4⟩]) ((HQ.out.ext HHX.out.1).ext (Ext.alloc _ _)) (fun x hx=>by obtain rfl:=List.mem_singleton.1 hx;exact HN.out.ext (Ext.alloc _ _)) (fun x hx=>(HA4.out x hx).2.2) (fun x hx=>(HA4.out x hx).1) (by rw [←HLE.out];show Que w6 _ 1 v6 (ln+1) (R.map Row.val++[.slice (some ⟨g4,o4,none⟩) (rowOf T.n (upC (fn l) k)).length c4]);rw [rowOf_len];exact hq6) hg6
     have hAp:=RowsQ.app_apart (w:=w4.alloc (.cells #[.slice (some ⟨g4,o4,none⟩) T.n c4] 25)) (v:=.slice a5 ln c5) (v':=v6) (R:=R++[⟨rowOf T.n (upC (fn l) k),some ⟨g4,o4,none⟩,g4,o4,c4⟩]) (fun x hx=>(List.mem_append.1 hx).elim (fun h=>((HQ.out.2 x h).ext HHX.out.1).ext (Ext.alloc _ _)) (fun h=>by obtain rfl:=List.mem_singleton.1 h;exact HN.out.ext (Ext.alloc _ _))) (fun x hx=>(HA4.out x hx).2.2) (fun x hx=>(HA4.out x hx).1) ho6
     have HR6:=Lib.hid (And.intro hRn (And.intro (fun x hx=>And.intro (hAp x hx) (HA4.out x hx).2.1) (Que.own_lt hq6 (by omega))))
     have HM6:=Lib.hid (show (R++[(⟨rowOf T.n (upC (fn l) k),some ⟨g4,o4,none⟩,g4,o4,c4⟩:Row)]).map Row.l=(T.toTr.onL (fn l) (k+1)).map (fun p=>rowOf T.n (upC (fn l) p)) from by
      rw [List.map_append,HM.out,HSN.out,List.map_append];rfl)
     have hx16:Ext w1 w6:=((hx13.trans hx4).alloc' _).below.grown hg6 (by rw [World.size_alloc];have:=hx13.le;have:=hx4.le;omega) (fun g e=>by exact HQ.out.1.block g e)
     clear hRn hAp hq6 hg6 ho6 hN4 hg4 hx4
     go_wp2_with fail
     go_roundg (T.n - (k+1))
     case rel=>exact ⟨k+1,_,by omega,rfl,by go_num,HR6.out.1,HM6.out,HR6.out.2.1,HR6.out.2.2,hx16⟩
     case measure=>omega
    | false =>
     have HSN:=Lib.hid (Tr.onL_no (fun h=>absurd (HBI.out.2 h) (by decide)))
     go_wp2_with fail
     go_roundg (T.n - (k+1))
     case rel=>exact ⟨k+1,R,by omega,rfl,by go_num,HQ.out.ext hxr3,by rw [HSN.out];exact HM.out,HA.out,fun b e=>by have:=HOB.out b e;have:=hxr3.le;omega,hx13⟩
     case measure=>omega
   ·have d1:decide ((ck:Int)<(T.en k:Int))=false:=decide_eq_false (by omega)
    have HSN:=Lib.hid (Tr.onL_no (T:=T.toTr) (c:=fn l) (k:=k) (fun h=>hl (by rw [hck];exact h.1)))
    have hgw:∀ d os,Ext w (Sort.grow (redrawn wr d) os):=fun d os=>hxw.trans (below_regrown wr d os)
    have hg1:∀ d os,Ext w1 (Sort.grow (redrawn wr d) os):=fun d os=>hxr.trans (below_regrown wr d os)
    have hgr:∀ d os,Ext wr (Sort.grow (redrawn wr d) os):=fun d os=>below_regrown wr d os
    clear hck
    go_upto_region 5 with fail
    refine wp_region_quiet_below (by kernel_rfl) (by kernel_rfl) ?_
    repeat (go_big_quiet_step (fail))
    refine wpQuiet_nil ?_
    intro _ hw'
    obtain ⟨⟨dq,osq⟩,hw''⟩:=hw'
    subst hw''
    have hxr6:=hgr dq osq
    have hx16:=hg1 dq osq
    clear hgw hg1 hgr
    generalize Sort.grow (redrawn wr dq) osq=w6 at hxr6 hx16 ⊢
    go_wp2_with fail
    go_roundg (T.n - (k+1))
    case rel=>exact ⟨k+1,R,by omega,rfl,by go_num,HQ.out.ext hxr6,by rw [HSN.out];exact HM.out,HA.out,fun b e=>by have:=HOB.out b e;have:=hxr6.le;omega,hx16⟩
    case measure=>omega
  ·obtain rfl:k=T.n:=by omega
   have HF:=Lib.hid (HQ.out.mono hx1.le)
   go_wp2_with fail
   go_ret
   exact ⟨hxw,_,R,rfl,HF.out,HM.out,fun x hx=>by have:=(HA.out x hx).2;have:=hx1.le;omega⟩
theorem Que.ofHold1 {w:World} {b base:Nat} {u:Value} (h:Hold w b #[u]) (hb:base≤b):Que w base 1 (.slice (some ⟨b,0,none⟩) 1 1) 1 [u]:=by
 have hx:=h.box
 refine ⟨rfl,.inr ⟨b,0,1,rfl,hb,h.lt,Nat.le_refl _,by unfold maxLen;omega,fun j hj=>?_,fun j hj=>?_⟩⟩
 ·obtain rfl:j=0:=by omega
  exact hx.cell w (Ext.refl _) 0
 ·obtain rfl:j=0:=by omega
  exact ⟨by rw [show (0+0:Nat)=0 from rfl,hx.cell w (Ext.refl _) 0];rfl,hx.frozen w (Ext.refl _) _⟩
structure LstI (T:Tr) (w1:World) (k B:Nat) (v4 v5:Value) (RL RO:List Row) (wr:World):Prop where
 q4:RowsQ wr B v4 RL
 q5:RowsQ wr w1.heap.size v5 RO
 hx:Ext w1 wr
 hB:w1.heap.size≤B∧B≤wr.heap.size
 g4:∀ x∈RL,B≤x.g
 o5:∀ g,v5.ownBlock=some g→g<B
 a5:∀ x∈RO,v5.ownBlock≠some x.g
 s4:RL.Pairwise (Row.bef T.n)
 m4:∀ l,(∃ x∈RL,x.l=l)↔(CutL T l∧tot (fn l) T.n=k)
 s5:RO.Pairwise (Row.bef T.n)
 m5:∀ l,(∃ x∈RO,x.l=l)↔(CutL T l∧tot (fn l) T.n<k)
 n4:RL.length≤40000
 n5:RO.length≤5000
structure NlI (T:Tr) (w4:World) (v6:Value) (RM:List Row) (P:List Nat→Prop) (m:Nat) (wr:World):Prop where
 q:RowsQ wr w4.heap.size v6 RM
 hx:Ext w4 wr
 g:∀ x∈RM,w4.heap.size≤x.g
 s:RM.Pairwise (Row.bef T.n)
 mem:∀ l,(∃ x∈RM,x.l=l)↔P l
 len:RM.length≤m
 ok:∀ x∈RM,CutL T x.l
theorem NlI.like {T:Tr} {w4:World} {v6:Value} {RM:List Row} {P P':List Nat→Prop} {m m':Nat} {wr:World} (h:NlI T w4 v6 RM P m wr) (hp:∀ l,P l↔P' l) (hm:m≤m'):NlI T w4 v6 RM P' m' wr:=
 ⟨h.q,h.hx,h.g,h.s,fun l=>(h.mem l).trans (hp l),Nat.le_trans h.len hm,h.ok⟩
theorem NlI.ext {T:Tr} {w4:World} {v6:Value} {RM:List Row} {P:List Nat→Prop} {m:Nat} {wr w':World} (h:NlI T w4 v6 RM P m wr) (x:Ext wr w'):NlI T w4 v6 RM P m w':=
 ⟨h.q.ext x,h.hx.trans x,h.g,h.s,h.mem,h.len,h.ok⟩
theorem InsIs.len {n:Nat} {R R':List Row} {r:Row} (h:InsIs n R r R'):R'.length≤R.length+1:=by
 obtain ⟨k,hk,_,_,⟨_,_,rfl⟩ | ⟨_,rfl⟩⟩:=h
 ·omega
 ·rw [List.length_append,List.length_cons,List.length_take,List.length_drop];omega
theorem NlI.ins {T:Tr} {w4:World} {v6 v':Value} {RM R':List Row} {P:List Nat→Prop} {m:Nat} {wr w':World} (h:NlI T w4 v6 RM P m wr) {r:Row} (hi:InsIs T.n RM r R') (hq:RowsQ w' w4.heap.size v' R') (x:Ext wr w') (hr:CutL T r.l) (hg:w4.heap.size≤r.g):NlI T w4 v' R' (fun l=>P l∨l=r.l) (m+1) w':=by
 refine ⟨hq,h.hx.trans x,fun y hy=>?_,hi.sorted h.s (fun y hy=>(h.ok y hy).1) hr.1,fun l=>(hi.mem.2 l).trans ⟨fun k=>k.elim (fun e=>.inr e) fun e=>.inl ((h.mem l).1 e),fun k=>k.elim (fun e=>.inr ((h.mem l).2 e)) .inl⟩,Nat.le_trans hi.len (Nat.add_le_add_right h.len 1),fun y hy=>?_⟩
 ·rcases hi.mem.1 y hy with rfl | k
  ·exact hg
  ·exact h.g y k
 ·rcases hi.mem.1 y hy with rfl | k
  ·exact hr
  ·exact h.ok y k
theorem nextOf_len (T:Tr) (l:List Nat):(T.nextOf l).length≤T.n:=by unfold Tr.nextOf;rw [List.length_map];exact T.onL_len _ _
def RlistPost (T:Tr) (w:World) (e:Ending) (w':World):Prop:=Ext w w'∧((∃ v R,e=.returned (.tuple #[v,.bool true])∧RowsQ w' w.heap.size v R∧IsCuts T (R.map Row.l)∧R.length≤5000)∨
 (e=.returned (.tuple #[.slice none 0 0,.bool false])∧∃ L:List (List Nat),L.Pairwise (fun a b=>befP T.n (fn a) (fn b))∧(∀ l∈L,CutL T l)∧5000<L.length))
theorem bef_map {n:Nat} {R:List Row}:(R.map Row.l).Pairwise (fun a b=>befP n (fn a) (fn b))↔R.Pairwise (Row.bef n):=List.pairwise_map
set_option maxHeartbeats 8000000 in
theorem rlist_any (w:World) (T:TM) (hT:T.At w) (hV:T.toTr.Valid):Calls Tryz.prog 31 #[T.val] w (RlistPost T.toTr w):=by
 obtain ⟨i0,hi0,hz0,hz1,hz2⟩:=info_parts infoInt
 obtain ⟨j0,hj0,hy0,hy1,hy2⟩:=info_parts infoInts1
 have hn8:=hV.n8
 have hn1:=hV.n1
 have HNX:=Lib.hid (fun W (x:Ext w W) r (hr:Row.At r W) hc=>rnext_any W T (hT.ext x) hV r hr hc)
 have HV:=Lib.hid hV
 unfold RlistPost
 obtain ⟨ta,hta⟩:∃ z,z=T.a:=⟨_,rfl⟩
 obtain rfl:ta=some ⟨T.b,T.off,none⟩:=by rw [hta];exact hT.P.pa (by omega)
 simp only [TM.val,←hta] at HNX ⊢
 clear hT hV hta
 go_enter Tryz.func31,Tryz.ntmps31
 go_upto_region 1 with fail
 refine boxed1 (w:=w) (G:=fun x=>Code.wp _ _ _ _ x) ?_
 intro w1 hx1 hs1 ⟨l0,c0,_,_⟩
 have hx11:Ext w1 w1:=Ext.refl _
 clear hs1
 go_upto_region 2 with (at_make;refine wpList_make_full _ rfl _ _ 25 rfl w1.heap.size 3 i0 (.int .i64 0) 1 Tryz.underlying25 hi0 hz0 hz1 .i64 .i64 _ _ T.n rfl rfl rfl rfl (by rw [hz2];omega) (by unfold maxLen;omega) (Nat.le_refl _) ?_;intro w2 hown2 hg2)
 have hx12:Ext w1 w2:=(Below.refl _ _).grown hg2 (Nat.le_refl _) (by simp)
 have HI2:=Lib.hid (IntRow.made hown2)
 clear hown2 hg2
 refine boxed1 (w:=w2) (G:=fun x=>Code.wp _ _ _ _ x) ?_
 intro w3 hx3 hs3 ⟨_,_,_,k3⟩
 have hx13:=hx12.trans hx3
 obtain ⟨b2,hb2⟩:∃ z,z=w2.heap.size:=⟨_,rfl⟩
 obtain ⟨b1,hb1⟩:∃ z,z=w1.heap.size:=⟨_,rfl⟩
 rw [←hb2] at k3 ⊢
 rw [←hb1] at k3 HI2 ⊢
 have hf0:∀ p,fn (List.replicate T.n 0) p=0:=fun p=>by unfold fn;rw [List.getD_eq_getElem?_getD,List.getElem?_replicate];split <;> rfl
 have hz:tot (fun _=>0) T.n=0:=by
  have:∀ n,tot (fun _=>0) n=0:=fun n=>by induction n with | zero=>rfl | succ n ih=>exact ih
  exact this _
 have hc0:CutL T.toTr (List.replicate T.n 0):=⟨List.length_replicate,(Tr.CutOk.zero T.toTr).congr fun p _=>hf0 p⟩
 have HST:=Lib.hid (show LstI T.toTr w1 0 b1 (.slice (some ⟨b2,0,none⟩) 1 1) (.slice none 0 0) [⟨List.replicate T.n 0,some ⟨b1,0,none⟩,b1,0,T.n⟩] [] w3 from by
  refine ⟨⟨by show Que w3 b1 1 _ 1 [Value.slice (some ⟨b1,0,none⟩) (List.replicate T.n 0).length T.n];rw [List.length_replicate];exact Que.ofHold1 k3 (by have:=hx12.le;omega),fun x hx=>?_⟩,RowsQ.nil _ _,hx13,⟨by omega,by have:=hx13.le;omega⟩,fun x hx=>?_,fun g e=>(by cases e),fun x hx=>(by cases hx),List.pairwise_singleton _ _,fun l=>?_,List.Pairwise.nil,fun l=>⟨fun ⟨x,hx,_⟩=>(by cases hx),fun h=>absurd h.2 (Nat.not_lt_zero _)⟩,by show 1≤40000;omega,by show 0≤5000;omega⟩
  ·obtain rfl:=List.mem_singleton.1 hx
   show NumAt w3 (List.replicate T.n 0).length _ b1 0 (natV (fn (List.replicate T.n 0)))
   rw [List.length_replicate]
   have h1:=(HI2.out.ext hx3).num (by omega)
   exact ⟨h1.hn,h1.pa,h1.pb,fun p hp=>by rw [h1.c p hp];show some (Value.int .i64 0)=some (Value.int .i64 ((fn (List.replicate T.n 0) p:Nat):Int));rw [hf0];rfl⟩
  ·obtain rfl:=List.mem_singleton.1 hx
   exact Nat.le_refl _
  ·constructor
   ·rintro ⟨x,hx,rfl⟩
    obtain rfl:=List.mem_singleton.1 hx
    exact ⟨hc0,(totS_congr fun p _=>hf0 p).trans hz⟩
   ·rintro ⟨h1,h2⟩
    refine ⟨_,List.mem_singleton.2 rfl,fn_ext (by rw [h1.1,List.length_replicate]) fun p hp=>?_⟩
    have hp':p<T.n:=by simpa using hp
    have h3:=tot_same (f:=fun _=>0) (g:=fn l) (n:=T.n) (fun _ _=>Nat.zero_le _) (by rw [hz,h2]) p hp'
    show fn (List.replicate T.n 0) p=fn l p
    rw [hf0];exact h3)
 have HB1:=Lib.hid hb1
 clear hf0 hz hc0 k3 hs3 hx3 hb2 hb1 hx13 hx12
 go_wp2_with fail
 go_loopg [4,5] (tot T.en T.n+2) (fun gg v4 v5 wr=>∃ (k B:Nat) (RL RO:List Row),gg=tot T.en T.n+2 - k∧LstI T.toTr w1 k B v4 v5 RL RO wr)
 case atStart=>exact ⟨0,b1,_,[],rfl,HST.out⟩
 case round=>
  obtain ⟨k,B,RL,RO,rfl,hI⟩:=hrel
  obtain ⟨a4,c4,rfl⟩:=hI.q4.1.slice
  obtain ⟨a5,c5,rfl⟩:=hI.q5.1.slice
  have hx1r:=hI.hx
  have hxr:=hx1.trans hx1r
  obtain ⟨ln,hln⟩:∃ z,z=RL.length:=⟨_,rfl⟩
  obtain ⟨lo,hlo⟩:∃ z,z=RO.length:=⟨_,rfl⟩
  have hl4:=hI.n4
  have hl5:=hI.n5
  rw [←hln] at hI hl4 ⊢
  rw [←hlo] at hI hl5 ⊢
  have HLN:=Lib.hid hln
  have HLO:=Lib.hid hlo
  have HI:=Lib.hid hI
  clear hI hln hlo
  by_cases h0:0<ln
  ·have d0:decide ((0:Int)<(ln:Int))=true:=decide_eq_true (by omega)
   have d0':decide (0<ln)=true:=decide_eq_true h0
   have HKL:=Lib.hid (show k≤tot T.en T.n from by
    have h1:RL[0]'(by rw [←HLN.out];exact h0)∈RL:=List.getElem_mem _
    have h2:=(HI.out.m4 _).1 ⟨_,h1,rfl⟩
    rw [←h2.2]
    exact totS_le fun p hp=>h2.1.2.le p hp)
   have HPOS:=Lib.hid (show ∀ x∈RO++RL,0<x.l.length∧CutL T.toTr x.l from fun x hx=>by
    have h1:CutL T.toTr x.l:=(List.mem_append.1 hx).elim (fun h=>((HI.out.m5 _).1 ⟨x,h,rfl⟩).1) (fun h=>((HI.out.m4 _).1 ⟨x,h,rfl⟩).1)
    exact ⟨by rw [h1.1];omega,h1⟩)
   have HAP:=Lib.hid (show ∀ x∈RO++RL,(Value.slice a5 lo c5).ownBlock≠some x.g from fun x hx=>by
    rcases List.mem_append.1 hx with h | h
    ·exact HI.out.a5 x h
    ·intro e
     have h1:=HI.out.o5 _ e
     have h2:=HI.out.g4 x h
     omega)
   go_upto_region 5 with (at_builtin;refine wpList_append_que _ rfl _ _ 28 28 rfl (base:=w1.heap.size) (e:=25) (size:=1) j0 (.slice none 0 0) 24 Tryz.underlying28 hj0 hy0 hy1 hy2 rfl rfl (v:=.slice a5 lo c5) (n:=lo) (xs:=RO.map Row.val) (by have h1:=HI.out.q5.1;rw [←HLO.out] at h1;exact h1) (by have:=hx1r.le;omega) (.slice a4 ln c4) ln (RL.map Row.val) rfl (by have h1:=HI.out.q4.src;rw [←HLN.out] at h1;exact h1) (by unfold maxLen;omega) (by omega) ?_;rintro v6 w4 hq6 hg6 ho6)
   have hRn:=RowsQ.app (w:=wr) (v:=.slice a5 lo c5) (R:=RO) (S:=RL) HI.out.q5 (fun x hx=>HI.out.q4.2 x hx) (fun x hx=>(HPOS.out x hx).1) HAP.out (by rw [←HLO.out,←HLN.out];exact hq6) hg6
   have hAp:=RowsQ.app_apart (w:=wr) (v:=.slice a5 lo c5) (v':=v6) (R:=RO++RL) (fun x hx=>(List.mem_append.1 hx).elim (HI.out.q5.2 x) (HI.out.q4.2 x)) (fun x hx=>(HPOS.out x hx).1) HAP.out ho6
   have hlt6:=Que.own_lt hq6 (by omega)
   have hx14:Ext w1 w4:=hx1r.below.grown hg6 hx1r.le (fun g e=>HI.out.q5.1.block g e)
   have HQ4:=Lib.hid (show RowsQ w4 B (.slice a4 ln c4) RL from by
    refine ⟨HI.out.q4.1.same' hg6.size fun g e=>hg6.block g ?_ ?_,fun x hx=>NumAt.blk (HI.out.q4.2 x hx) (hg6.block x.g (NumAt.pb (HI.out.q4.2 x hx) (HPOS.out x (List.mem_append_right _ hx)).1) (fun e=>HAP.out x (List.mem_append_right _ hx) e.symm)) hg6.size⟩
    ·exact Que.own_lt HI.out.q4.1 (by rw [←HLN.out];exact h0) g e
    ·intro e2
     have h1:=HI.out.o5 g e2.symm
     have h2:=HI.out.q4.1.block g e
     omega)
   obtain ⟨a6,c6,rfl⟩:=hq6.slice
   have HR4:=Lib.hid (And.intro hRn (And.intro hAp hlt6))
   have HS6:=Lib.hid (show (RO++RL).Pairwise (Row.bef T.n) from List.pairwise_append.2 ⟨HI.out.s5,HI.out.s4,fun x hx y hy=>.inl (by
    have h1:=((HI.out.m5 _).1 ⟨x,hx,rfl⟩).2
    have h2:=((HI.out.m4 _).1 ⟨y,hy,rfl⟩).2
    show tot (fn x.l) T.n<tot (fn y.l) T.n
    omega)⟩)
   have HM6:=Lib.hid (show ∀ l,(∃ x∈RO++RL,x.l=l)↔(CutL T.toTr l∧tot (fn l) T.n<k+1) from fun l=>by
    constructor
    ·rintro ⟨x,hx,rfl⟩
     rcases List.mem_append.1 hx with h | h
     ·have h1:=(HI.out.m5 _).1 ⟨x,h,rfl⟩;exact ⟨h1.1,by omega⟩
     ·have h1:=(HI.out.m4 _).1 ⟨x,h,rfl⟩;exact ⟨h1.1,by omega⟩
    ·rintro ⟨h1,h2⟩
     by_cases e:tot (fn l) T.n=k
     ·obtain ⟨x,hx,hl⟩:=(HI.out.m4 l).2 ⟨h1,e⟩;exact ⟨x,List.mem_append_right _ hx,hl⟩
     ·obtain ⟨x,hx,hl⟩:=(HI.out.m5 l).2 ⟨h1,by omega⟩;exact ⟨x,List.mem_append_left _ hx,hl⟩)
   have HLB:=Lib.hid (show B≤wr.heap.size∧wr.heap.size≤w4.heap.size from ⟨HI.out.hB.2,hg6.size⟩)
   have hxw4:=hx1.trans hx14
   clear hRn hAp hlt6 hq6 hg6 ho6
   by_cases hbig:5000<lo+ln
   ·have d1:decide ((5000:Int)<((lo+ln:Nat):Int))=true:=decide_eq_true (by omega)
    have d1':decide ((5000:Int)<(lo:Int)+(ln:Int))=true:=decide_eq_true (by omega)
    have d1'':decide (5000<lo+ln)=true:=decide_eq_true hbig
    go_wp2_with fail
    go_ret2
    exact ⟨hxw4,.inr ⟨rfl,(RO++RL).map Row.l,bef_map.2 HS6.out,fun l hl=>by obtain ⟨x,hx,rfl⟩:=List.mem_map.1 hl;exact (HPOS.out x hx).2,by rw [List.length_map,List.length_append,←HLO.out,←HLN.out];exact hbig⟩⟩
   have d1:decide ((5000:Int)<((lo+ln:Nat):Int))=false:=decide_eq_false (by omega)
   have d1':decide ((5000:Int)<(lo:Int)+(ln:Int))=false:=decide_eq_false (by omega)
   have d1'':decide (5000<lo+ln)=false:=decide_eq_false hbig
   have HNL:=Lib.hid (show NlI T.toTr w4 (.slice none 0 0) [] (fun l=>∃ a∈RL.take 0,l∈T.toTr.nextOf a.l) (8*0) w4 from ⟨RowsQ.nil _ _,Ext.refl _,fun x hx=>(by cases hx),List.Pairwise.nil,fun l=>⟨fun ⟨x,hx,_⟩=>(by cases hx),fun ⟨x,hx,_⟩=>(by simp at hx)⟩,Nat.le_refl _,fun x hx=>(by cases hx)⟩)
   clear hx1r hxr
   go_wp2_with fail
   go_loopg [6,7] ln (fun gg v6 v7 wr=>∃ (i:Nat) (RM:List Row),i≤ln∧gg=ln - i∧v7=.int .i64 i∧NlI T.toTr w4 v6 RM (fun l=>∃ a∈RL.take i,l∈T.toTr.nextOf a.l) (8*i) wr)
   case atStart=>exact ⟨0,[],by omega,rfl,rfl,HNL.out⟩
   case round=>
    obtain ⟨i,RM,hi,rfl,rfl,hN⟩:=hrel
    have hx4i:=hN.hx
    have hx1i:=hx14.trans hx4i
    have hxwi:=hx1.trans hx1i
    obtain ⟨am,cm,rfl⟩:=hN.q.1.slice
    obtain ⟨lm,hlm⟩:∃ z,z=RM.length:=⟨_,rfl⟩
    have hlm4:lm≤40000:=by have:=hN.len;omega
    rw [←hlm] at hN ⊢
    have HLM:=Lib.hid hlm
    have HN:=Lib.hid hN
    clear hN HNL hlm
    by_cases hli:i<ln
    ·have hli':(i:Int)<(ln:Int):=by omega
     have hiR:i<RL.length:=by rw [←HLN.out];exact hli
     obtain ⟨a4',g4,o4,c4',hv4,_,hp4,hget⟩:=HQ4.out.get
     rw [←HLN.out] at hv4
     simp only [Value.slice.injEq] at hv4
     obtain ⟨rfl,_,rfl⟩:=hv4
     obtain ⟨rfl,_,hgl⟩:=hp4 (by omega)
     have hcell:=hget i hiR
     have pb4:∀ w',Ext w4 w'→g4<w'.heap.size:=fun w' x=>Nat.lt_of_lt_of_le hgl x.le
     have hnx:=HNX.out wr.drew hxwi.drew RL[i] ((HQ4.out.2 _ (List.getElem_mem hiR)).ext hx4i.drew) (HPOS.out _ (List.mem_append_right _ (List.getElem_mem hiR))).2
     simp only [Row.val] at hnx
     obtain ⟨ra,hra⟩:∃ z,z=RL[i].a:=⟨_,rfl⟩
     obtain ⟨rl,hrl⟩:∃ z,z=RL[i].l.length:=⟨_,rfl⟩
     obtain ⟨rc,hrc⟩:∃ z,z=RL[i].c:=⟨_,rfl⟩
     rw [←hra,←hrl,←hrc] at hnx hcell
     clear hget hp4 hgl hra hrl hrc
     go_upto_region 11 with fail
     refine wp_region_held_drew (S:=fun w'=>Ext wr w') (by kernel_rfl) (Ext.refl _).drew (fun hHeld=>?_)
     refine hQ 0 (v:=?_) rfl (y:=.inl ⟨by rfl,?_⟩) (h:=?_)
     rotate_left
     ·(intro w' hSw;(try dsimp only at hSw);have hS1:=hx1i.trans hSw;have hS4:=hx4i.trans hSw;have hSS:=Ext.refl w';go_simp;try with_reducible rfl)
     try simp only [Act.put,zA,zB,zC]
     refine hQ 1 (v:=?_) rfl (y:=.inl ⟨by rfl,?_⟩) (h:=?_)
     rotate_left
     ·(intro w' hSw;(try dsimp only at hSw);have hS1:=hx1i.trans hSw;have hS4:=hx4i.trans hSw;have hSS:=Ext.refl w';go_simp;try with_reducible rfl)
     try simp only [Act.put,zA,zB,zC]
     refine hQ 2 (v:=?_) rfl (y:=.inl ⟨by rfl,?_⟩) (h:=?_)
     rotate_left
     ·(intro w' hSw;(try dsimp only at hSw);have hS1:=hx1i.trans hSw;have hS4:=hx4i.trans hSw;have hSS:=Ext.refl w';go_simp;try with_reducible rfl)
     try simp only [Act.put,zA,zB,zC]
     refine hQ 3 (v:=?_) rfl (y:=.inl ⟨by rfl,?_⟩) (h:=?_)
     rotate_left
     ·(intro w' hSw;(try dsimp only at hSw);have hS1:=hx1i.trans hSw;have hS4:=hx4i.trans hSw;have hSS:=Ext.refl w';go_simp;try with_reducible rfl)
     try simp only [Act.put,zA,zB,zC]
     refine hQ 4 (v:=?_) rfl (y:=.inl ⟨by rfl,?_⟩) (h:=?_)
     rotate_left
     ·(intro w' hSw;(try dsimp only at hSw);have hS1:=hx1i.trans hSw;have hS4:=hx4i.trans hSw;have hSS:=Ext.refl w';go_simp;try with_reducible rfl)
     try simp only [Act.put,zA,zB,zC]
     refine wpAnyH_ready (rs:=[5]) (by kernel_rfl) (by simp) ?_
     refine AllReadyH.cons rfl (fun K hK=>?_) AllReadyH.nil
     go_simp
     go_at_call 78
     refine hnx.mono ?_
     rintro e w6 ⟨hx6,v8,R8,rfl,hq8,hm8,hg8⟩
     have hxr6:Ext wr w6:=(Ext.refl wr).drew.trans hx6
     refine hK.out _ _ ?_ (fun hHeld2=>?_)
     ·exact hxr6
     clear hK K
     try simp only [Act.put,zA,zB,zC]
     refine wpAnyH_ready (rs:=[6]) (by kernel_rfl) (by simp) ?_
     refine AllReadyH.cons rfl (fun K hK=>?_) AllReadyH.nil
     go_simp
     refine hK.out _ _ ?_ (fun hHeld3=>?_)
     ·exact hxr6
     clear hK K
     try simp only [Act.put,zA,zB,zC]
     refine wpAnyH_done (by kernel_rfl) ?_ _
     have HX4I:=Lib.hid (show w4.heap.size≤wr.drew.heap.size from hx4i.drew.le)
     have HM8:=Lib.hid hm8
     have HG8:=Lib.hid hg8
     have HQ8:=Lib.hid hq8
     obtain ⟨a8',g8,o8,c8',hv8,_,hp8,hget8⟩:=hq8.get
     obtain ⟨n8,hn8'⟩:∃ z,z=R8.length:=⟨_,rfl⟩
     rw [←hn8'] at hv8 hp8
     subst hv8
     have HN8:=Lib.hid hn8'
     have hn88:n8≤8:=by
      have h1:=congrArg List.length HM8.out
      rw [List.length_map,←hn8'] at h1
      rw [h1]
      have:=nextOf_len T.toTr RL[i].l
      omega
     have HGT:=Lib.hid hget8
     have HP8:=Lib.hid hp8
     have hx46:=hx4i.trans hxr6
     have hx16:=hx1i.trans hxr6
     have hxw6:=hxwi.trans hxr6
     have HST2:=Lib.hid (show NlI T.toTr w4 (.slice am lm cm) RM (fun l=>(∃ a∈RL.take i,l∈T.toTr.nextOf a.l)∨l∈(T.toTr.nextOf RL[i].l).take 0) (8*i+0) w6 from (HN.out.ext hxr6).like (fun l=>⟨.inl,fun h=>h.elim id fun h=>by simp at h⟩) (Nat.le_refl _))
     have h66:Ext w6 w6:=Ext.refl _
     clear hHeld hHeld2 hHeld3 hnx hx6 hm8 hg8 hq8 hget8 hp8 hn8' hcell pb4
     go_wp2_with fail
     go_loopg [6,9] n8 (fun gg v6 v9 wr=>∃ (j:Nat) (RM:List Row),j≤n8∧gg=n8 - j∧v9=.int .i64 j∧NlI T.toTr w4 v6 RM (fun l=>(∃ a∈RL.take i,l∈T.toTr.nextOf a.l)∨l∈(T.toTr.nextOf RL[i].l).take j) (8*i+j) wr∧Ext w6 wr)
     case atStart=>exact ⟨0,RM,by omega,rfl,rfl,HST2.out,h66⟩
     case round=>
      obtain ⟨j,RN,hj,rfl,rfl,hN,hx6j⟩:=hrel
      obtain ⟨an,cn,rfl⟩:=hN.q.1.slice
      have hx4j:=hN.hx
      have hxwj:=hxw6.trans hx6j
      obtain ⟨lk,hlk⟩:∃ z,z=RN.length:=⟨_,rfl⟩
      have hlk4:lk≤100000:=by have:=hN.len;omega
      rw [←hlk] at hN ⊢
      have HN2:=Lib.hid hN
      by_cases hlj:j<n8
      ·have hlj':(j:Int)<(n8:Int):=by omega
       have hjR:j<R8.length:=by rw [←HN8.out];exact hlj
       obtain ⟨rfl,_,hgl8⟩:=HP8.out (by omega)
       have hcell8:=HGT.out j hjR
       have pb8:∀ w',Ext w6 w'→g8<w'.heap.size:=fun w' x=>Nat.lt_of_lt_of_le hgl8 x.le
       have hj8:(T.toTr.nextOf RL[i].l)[j]?=some R8[j].l:=by rw [←HM8.out,List.getElem?_map,List.getElem?_eq_getElem hjR];rfl
       have hcj:CutL T.toTr R8[j].l:=(CutL.next (HPOS.out _ (List.mem_append_right _ (List.getElem_mem hiR))).2 (List.mem_of_getElem? hj8)).1
       have hins:=rins_any wr T.n w4.heap.size (.slice an lk cn) RN HN2.out.q hx4j.le (fun x hx=>(HN2.out.ok x hx).ok HV.out) (by rw [←hlk];exact hlk4) R8[j] ((HQ8.out.2 _ (List.getElem_mem hjR)).ext hx6j) (hcj.ok HV.out)
       simp only [Row.val] at hins
       obtain ⟨ra,hra⟩:∃ z,z=R8[j].a:=⟨_,rfl⟩
       obtain ⟨rl,hrl⟩:∃ z,z=R8[j].l.length:=⟨_,rfl⟩
       obtain ⟨rc,hrc⟩:∃ z,z=R8[j].c:=⟨_,rfl⟩
       rw [←hra,←hrl,←hrc] at hins hcell8
       have HCJ:=Lib.hid (And.intro hcj hj8)
       clear hgl8 hra hrl hrc hcj hj8 hN hlk
       go_wp2_with fail
       go_at_call 79
       refine hins.mono ?_
       rintro e w7 ⟨hx7,v7,R7,rfl,hq7,hi7,_⟩
       obtain ⟨a7,c7,rfl⟩:=hq7.1.slice
       have hx67:=hx6j.trans hx7
       have HNX2:=Lib.hid ((HN2.out.ins hi7 hq7 hx7 HCJ.out.1 (Nat.le_trans HX4I.out (HG8.out _ (List.getElem_mem hjR)))).like (P':=fun l=>(∃ a∈RL.take i,l∈T.toTr.nextOf a.l)∨l∈(T.toTr.nextOf RL[i].l).take (j+1)) (fun l=>by
        rw [List.take_add_one,HCJ.out.2]
        simp only [Option.toList_some,List.mem_append,List.mem_singleton]
        exact or_assoc) (show 8*i+j+1≤8*i+(j+1) from Nat.le_refl _))
       clear hins hq7 hi7 hx7
       go_wp2_with fail
       go_roundg (n8 - (j+1))
       case rel=>exact ⟨j+1,R7,by omega,rfl,by go_num,HNX2.out,hx67⟩
       case measure=>omega
      ·obtain rfl:j=n8:=by omega
       have HNI:=Lib.hid (show NlI T.toTr w4 (.slice an lk cn) RN (fun l=>∃ a∈RL.take (i+1),l∈T.toTr.nextOf a.l) (8*(i+1)) wr from HN2.out.like (fun l=>by
        have e9:(T.toTr.nextOf RL[i].l).take j=T.toTr.nextOf RL[i].l:=List.take_of_length_le (by have h1:=congrArg List.length HM8.out;rw [List.length_map] at h1;rw [←h1,←HN8.out];exact Nat.le_refl _)
        rw [e9,List.take_add_one,List.getElem?_eq_getElem hiR]
        constructor
        ·rintro (⟨a,ha,hl⟩ | hl)
         ·exact ⟨a,List.mem_append_left _ ha,hl⟩
         ·exact ⟨RL[i],List.mem_append_right _ (by simp),hl⟩
        ·rintro ⟨a,ha,hl⟩
         rcases List.mem_append.1 ha with h | h
         ·exact .inl ⟨a,h,hl⟩
         ·obtain rfl:a=RL[i]:=by simpa using h
          exact .inr hl) (by omega))
       clear hN hlk
       go_wp2_with fail
       go_roundg (ln - (i+1))
       case rel=>exact ⟨i+1,RN,by omega,rfl,by go_num,HNI.out⟩
       case measure=>omega
    ·obtain rfl:i=ln:=by omega
     have HNS:=Lib.hid (show LstI T.toTr w1 (k+1) w4.heap.size (.slice am lm cm) (.slice a6 (lo+i) c6) RM (RO++RL) wr from
      ⟨HN.out.q,HR4.out.1.ext hx4i,hx1i,⟨hx14.le,hx4i.le⟩,HN.out.g,HR4.out.2.2,HR4.out.2.1,HN.out.s,fun l=>by
       rw [HN.out.mem l]
       refine Iff.trans ?_ (level_next HV.out (P:=fun l=>∃ x∈RL,x.l=l) (fun l=>HI.out.m4 l) l)
       rw [List.take_of_length_le (by rw [HLN.out];exact Nat.le_refl _)]
       constructor
       ·rintro ⟨a,ha,hl⟩;exact ⟨a.l,⟨a,ha,rfl⟩,hl⟩
       ·rintro ⟨_,⟨a,ha,rfl⟩,hl⟩;exact ⟨a,ha,hl⟩,HS6.out,HM6.out,by have:=HN.out.len;omega,by rw [List.length_append,←HLO.out,←HLN.out];omega⟩)
     go_wp2_with fail
     go_roundg (tot T.en T.n+2 - (k+1))
     case rel=>exact ⟨k+1,w4.heap.size,RM,RO++RL,rfl,HNS.out⟩
     case measure=>have:=HKL.out;omega
  ·have hl0:ln=0:=by omega
   subst hl0
   have HF:=Lib.hid (show IsCuts T.toTr (RO.map Row.l) from ⟨bef_map.2 HI.out.s5,fun l=>by
    have hn0:∀ l,¬(CutL T.toTr l∧tot (fn l) T.n=k):=fun l h=>by
     obtain ⟨x,hx,_⟩:=(HI.out.m4 l).2 h
     have h1:RL=[]:=List.eq_nil_of_length_eq_zero HLN.out.symm
     rw [h1] at hx;cases hx
    constructor
    ·intro hl
     obtain ⟨x,hx,rfl⟩:=List.mem_map.1 hl
     exact ((HI.out.m5 _).1 ⟨x,hx,rfl⟩).1
    ·intro hl
     have h2:tot (fn l) T.n<k:=Nat.lt_of_not_le fun hle=>level_none HV.out hn0 (tot (fn l) T.n - k) l hl (by omega)
     obtain ⟨x,hx,rfl⟩:=(HI.out.m5 l).2 ⟨hl,h2⟩
     exact List.mem_map.2 ⟨x,hx,rfl⟩⟩)
   go_wp2_with fail
   go_ret2
   exact ⟨hxr,.inl ⟨_,RO,rfl,(by have h1:=HI.out.q5.mono hx1.le;exact h1),HF.out,by rw [←HLO.out];exact hl5⟩⟩
end Go.Proofs.YtmhapcnlpoilpaaGreatDoor
