/- Contracts and laws in plain Lean for RApp: group W38. -/
import Derived.Test.YtkhgpockmaghjaaGreatW36
import Derived.Test.YtkhgpockmaghjaaGreatW20
import Derived.Test.YtkhgpockmaghjaaGreatW34
set_option maxRecDepth 100000
namespace Go.Proofs.YtkhgpockmaghjaaGreat
open Go.RowKit Go.Shelf
attribute [local go_sem] Oper.semAt_some
def fn (l:List Nat):Nat→Nat:=fun p=>l.getD p 0
theorem fn_ext {l m:List Nat} (hl:l.length=m.length) (h:∀ p,p<l.length→fn l p=fn m p):l=m:=by
 refine List.ext_getElem hl fun p h1 h2=>?_
 have h3:=h p h1
 unfold fn at h3
 rw [List.getD_eq_getElem?_getD,List.getD_eq_getElem?_getD,List.getElem?_eq_getElem h1,List.getElem?_eq_getElem h2] at h3
 exact h3
def rowOf (n:Nat) (c:Nat→Nat):List Nat:=(List.range n).map c
theorem rowOf_len (n:Nat) (c:Nat→Nat):(rowOf n c).length=n:=by simp [rowOf]
theorem fn_rowOf {n:Nat} {c:Nat→Nat} {p:Nat} (h:p<n):fn (rowOf n c) p=c p:=by simp [fn,rowOf,h]
theorem rowOf_fn (l:List Nat):rowOf l.length (fn l)=l:=fn_ext (rowOf_len _ _) fun p hp=>fn_rowOf (by rw [rowOf_len] at hp;exact hp)
structure Row where
 l:List Nat
 a:Option Addr
 g:Nat
 o:Nat
 c:Nat
def Row.val (r:Row):Value:=.slice r.a r.l.length r.c
def Row.At (r:Row) (w:World):Prop:=NumAt w r.l.length r.a r.g r.o (natV (fn r.l))
theorem Row.At.ext {r:Row} {w w':World} (h:r.At w) (x:Ext w w'):r.At w':=NumAt.ext h x
def RowsQ (w:World) (base:Nat) (v:Value) (R:List Row):Prop:=Que w base 1 v R.length (R.map Row.val)∧∀ r∈R,r.At w
theorem RowsQ.ext {w w':World} {base:Nat} {v:Value} {R:List Row} (h:RowsQ w base v R) (x:Ext w w'):RowsQ w' base v R:=⟨h.1.ext x,fun r hr=>(h.2 r hr).ext x⟩
theorem RowsQ.mono {w:World} {base base':Nat} {v:Value} {R:List Row} (h:RowsQ w base v R) (hb:base'≤base):RowsQ w base' v R:=⟨h.1.mono hb,h.2⟩
theorem RowsQ.nil (w:World) (base:Nat):RowsQ w base (.slice none 0 0) []:=⟨Que.nil w base 1,fun _ h=>by cases h⟩
theorem RowsQ.get {w : World} {base : Nat} {v : Value} {R : List Row} (h : RowsQ w base v R) :
    ∃ a g o c,v=.slice a R.length c∧R.length≤c∧(0<R.length→a=some ⟨g,o,none⟩∧base≤g∧g<w.heap.size)∧∀ k (hk:k<R.length) w',Ext w w'→w'.cell? ⟨g,o+k,none⟩=some (.slice R[k].a R[k].l.length R[k].c):=by
 obtain ⟨a,g,o,c,h1,h2,h3,h4⟩:=Que.cells1 h.1
 refine ⟨a,g,o,c,h1,h2,h3,fun k hk w' x=>?_⟩
 have h5:=h4 k hk
 rw [List.getElem?_map,List.getElem?_eq_getElem hk] at h5
 exact x.cell h5
theorem row_one (l:List Row):∀ u∈l.map Row.val,u.oneCell'=true:=by
 intro u hu
 obtain ⟨r,_,rfl⟩:=List.mem_map.1 hu
 rfl
def lexP (n:Nat) (u v:Nat→Nat):Prop:=∃ p,p<n∧(∀ q,q<p→u q=v q)∧u p<v p
def befP (n:Nat) (u v:Nat→Nat):Prop:=tot u n<tot v n∨(tot u n=tot v n∧lexP n u v)
theorem lexP_irrefl (n:Nat) (u:Nat→Nat):¬lexP n u u:=fun ⟨_,_,_,h⟩=>absurd h (Nat.lt_irrefl _)
theorem lexP_trans {n:Nat} {u v w:Nat→Nat} (h:lexP n u v) (k:lexP n v w):lexP n u w:=by
 obtain ⟨p,hp,h1,h2⟩:=h
 obtain ⟨q,hq,k1,k2⟩:=k
 rcases Nat.lt_trichotomy p q with e | e | e
 ·exact ⟨p,hp,fun r hr=>(h1 r hr).trans (k1 r (by omega)),by rw [←k1 p e];exact h2⟩
 ·subst e;exact ⟨p,hp,fun r hr=>(h1 r hr).trans (k1 r hr),by omega⟩
 ·exact ⟨q,hq,fun r hr=>(h1 r (by omega)).trans (k1 r hr),by rw [h1 q e];exact k2⟩
theorem first_diff {u v:Nat→Nat}:∀ n,(∀ q,q<n→u q=v q)∨∃ p,p<n∧(∀ q,q<p→u q=v q)∧u p≠v p
 | 0 => .inl fun q h => by omega
 | n+1 => by
  rcases first_diff (u:=u) (v:=v) n with h | ⟨p,hp,h1,h2⟩
  ·by_cases e:u n=v n
   ·exact .inl fun q hq => by
      by_cases e2:q=n
      ·subst e2;exact e
      ·exact h q (by omega)
   ·exact .inr ⟨n,by omega,h,e⟩
  ·exact .inr ⟨p,by omega,h1,h2⟩
theorem lexP_total {n:Nat} {u v:Nat→Nat} (h:¬ ∀ q,q<n→u q=v q):lexP n u v∨lexP n v u:=by
 rcases first_diff (u:=u) (v:=v) n with k | ⟨p,hp,h1,h2⟩
 ·exact absurd k h
 ·rcases Nat.lt_or_gt_of_ne h2 with e | e
  ·exact .inl ⟨p,hp,h1,e⟩
  ·exact .inr ⟨p,hp,fun q hq=>(h1 q hq).symm,e⟩
theorem befP_irrefl (n:Nat) (u:Nat→Nat):¬befP n u u:=by
 rintro (h | ⟨_,h⟩)
 ·omega
 ·exact lexP_irrefl n u h
theorem befP_trans {n:Nat} {u v w:Nat→Nat} (h:befP n u v) (k:befP n v w):befP n u w:=by
 rcases h with h | ⟨h,h'⟩ <;> rcases k with k | ⟨k,k'⟩
 ·exact .inl (by omega)
 ·exact .inl (by omega)
 ·exact .inl (by omega)
 ·exact .inr ⟨by omega,lexP_trans h' k'⟩
theorem befP_total {n:Nat} {u v:Nat→Nat} (h:¬ ∀ q,q<n→u q=v q):befP n u v∨befP n v u:=by
 rcases Nat.lt_trichotomy (tot u n) (tot v n) with e | e | e
 ·exact .inl (.inl e)
 ·rcases lexP_total h with k | k
  ·exact .inl (.inr ⟨e,k⟩)
  ·exact .inr (.inr ⟨e.symm,k⟩)
 ·exact .inr (.inl e)
set_option maxHeartbeats 1000000 in
theorem rsame_any (w : World) (a1 a2 : Option Addr) (g1 o1 g2 o2 n m c1 c2 : Nat) (u v : Nat → Int) (h1 : NumAt w n a1 g1 o1 u) (h2 : NumAt w m a2 g2 o2 v) :
    Calls Tryz.prog 78 #[.slice a1 n c1,.slice a2 m c2] w (BoolPost (EqL n m u v) w):=by
 have hn1:=h1.hn
 have hn2:=h2.hn
 have H1:=Lib.hid h1
 have H2:=Lib.hid h2
 have hww:Ext w w:=Ext.refl _
 clear h1 h2
 go_enter Tryz.func78,Tryz.ntmps78
 by_cases hnm:n=m
 ·subst hnm
  have d0:((n:Int) == (n:Int))=true:=by simp
  go_wp2_with fail
  go_loopg [5] n (fun gg v5 wr=>∃ k:Nat,k≤n∧gg=n - k∧v5=.int .i64 k∧Ext w wr∧∀ i,i<k→u i=v i)
  case atStart=>exact ⟨0,by omega,rfl,rfl,hww,fun i h=>by omega⟩
  case round=>
   obtain ⟨k,hk,rfl,rfl,hxr,hall⟩:=hrel
   have HA:=Lib.hid hall
   clear hall
   by_cases hlt:k<n
   ·have hlt':(k:Int)<(n:Int):=by omega
    obtain rfl:=H1.out.pa (by omega)
    obtain rfl:=H2.out.pa (by omega)
    have pb1:∀ w',Ext w w'→g1<w'.heap.size:=fun w' x=>Nat.lt_of_lt_of_le (H1.out.pb (by omega)) x.le
    have pb2:∀ w',Ext w w'→g2<w'.heap.size:=fun w' x=>Nat.lt_of_lt_of_le (H2.out.pb (by omega)) x.le
    obtain ⟨x,hx⟩:∃ x,x=u k:=⟨_,rfl⟩
    obtain ⟨y,hy⟩:∃ y,y=v k:=⟨_,rfl⟩
    have p1:∀ w',Ext w w'→w'.cell? ⟨g1,o1+k,none⟩=some (.int .i64 x):=fun w' h=>by rw [hx];exact h.cell (H1.out.c k hlt)
    have q1:∀ w',Ext w w'→w'.cell? ⟨g2,o2+k,none⟩=some (.int .i64 y):=fun w' h=>by rw [hy];exact h.cell (H2.out.c k hlt)
    have HX:=Lib.hid (And.intro hx hy)
    clear hx hy
    by_cases e:x=y
    ·subst e
     have d1:(x == x)=true:=by simp
     go_upto_region 6 with fail
     go_quiet (fail)
     have hq:=hxr.drewN nq
     go_wp2_with fail
     go_roundg (n - (k+1))
     case rel=>exact ⟨k+1,by omega,rfl,by go_num,hq,fun i hi=>by
      by_cases e:i=k
      ·subst e;rw [←HX.out.1,←HX.out.2]
      ·exact HA.out i (by omega)⟩
     case measure=>omega
    ·have d1:(x == y)=false:=by simpa using e
     go_upto_region 6 with fail
     go_quiet (fail)
     have hq:=hxr.drewN nq
     go_wp2_with fail
     go_ret
     exact ⟨false,rfl,⟨fun h=>(by cases h),fun h=>absurd (h.2 k hlt) (by rw [←HX.out.1,←HX.out.2];exact e)⟩,hq⟩
   ·obtain rfl:k=n:=by omega
    go_wp2_with fail
    go_ret
    exact ⟨true,rfl,⟨fun _=>⟨rfl,HA.out⟩,fun _=>rfl⟩,hxr⟩
 ·have d0:((n:Int) == (m:Int))=false:=by simpa using fun h:(n:Int)=m=>hnm (by omega)
  have d0':(n == m)=false:=by simpa using hnm
  go_wp2_with fail
  go_ret
  exact ⟨false,rfl,⟨fun h=>(by cases h),fun h=>absurd h.1 hnm⟩,hww⟩
set_option maxHeartbeats 1000000 in
theorem rsize_any (w : World) (a : Option Addr) (g o n c : Nat) (u : Nat → Nat) (h1 : NumAt w n a g o (natV u)) (hs : ∀ p, p ≤ n → tot u p ≤ 100000) :
    Calls Tryz.prog 140 #[.slice a n c] w fun e w'=>e=.returned (.int .i64 (tot u n:Nat))∧Ext w w':=by
 have hn1:=h1.hn
 have H1:=Lib.hid h1
 have HS:=Lib.hid hs
 have hww:Ext w w:=Ext.refl _
 clear h1 hs
 go_enter Tryz.func140,Tryz.ntmps140
 go_wp2_with fail
 go_loopg [3,4] n (fun gg v3 v4 wr=>∃ k:Nat,k≤n∧gg=n - k∧v4=.int .i64 k∧v3=.int .i64 (tot u k:Nat)∧Ext w wr)
 case atStart=>exact ⟨0,by omega,rfl,rfl,rfl,hww⟩
 case round=>
  obtain ⟨k,hk,rfl,rfl,rfl,hxr⟩:=hrel
  by_cases hlt:k<n
  ·have hlt':(k:Int)<(n:Int):=by omega
   obtain rfl:=H1.out.pa (by omega)
   have pb1:∀ w',Ext w w'→g<w'.heap.size:=fun w' x=>Nat.lt_of_lt_of_le (H1.out.pb (by omega)) x.le
   obtain ⟨x,hx⟩:∃ x,x=u k:=⟨_,rfl⟩
   have p1:∀ w',Ext w w'→w'.cell? ⟨g,o+k,none⟩=some (.int .i64 (x:Int)):=fun w' h=>by rw [hx];exact h.cell (H1.out.c k hlt)
   have h2:=HS.out (k+1) (by omega)
   have h3:tot u (k+1)=tot u k+x:=by rw [hx];rfl
   have H3:=Lib.hid h3
   obtain ⟨s,hs⟩:∃ s,s=tot u k:=⟨_,rfl⟩
   rw [←hs] at H3 h3 ⊢
   have hw1:IntKind.i64.wrap ((s:Int)+(x:Int))=((s+x:Nat):Int):=by rw [IntWalk.i64_in _ (by omega)];omega
   clear hx h2 h3 hs
   go_wp2_with fail
   go_roundg (n - (k+1))
   case rel=>exact ⟨k+1,by omega,rfl,by go_num,congrArg (Value.int .i64) (by rw [H3.out];omega),hxr⟩
   case measure=>omega
  ·obtain rfl:k=n:=by omega
   go_wp2_with fail
   go_ret
   exact ⟨rfl,hxr⟩
set_option maxHeartbeats 1000000 in
theorem rbef_any (w : World) (a1 a2 : Option Addr) (g1 o1 g2 o2 n c1 c2 : Nat) (u v : Nat → Nat) (h1 : NumAt w n a1 g1 o1 (natV u)) (h2 : NumAt w n a2 g2 o2 (natV v)) (hs1 : ∀ p, p ≤ n → tot u p ≤ 100000) (hs2 : ∀ p, p ≤ n → tot v p ≤ 100000) :
    Calls Tryz.prog 106 #[.slice a1 n c1,.slice a2 n c2] w (BoolPost (befP n u v) w):=by
 have hn1:=h1.hn
 have S1:=Lib.hid (fun W (x:Ext w W)=>rsize_any W a1 g1 o1 n c1 u (h1.ext x) hs1)
 have S2:=Lib.hid (fun W (x:Ext w W)=>rsize_any W a2 g2 o2 n c2 v (h2.ext x) hs2)
 have H1:=Lib.hid h1
 have H2:=Lib.hid h2
 have hww:Ext w w:=Ext.refl _
 obtain ⟨tu,htu⟩:∃ t,t=tot u n:=⟨_,rfl⟩
 obtain ⟨tv,htv⟩:∃ t,t=tot v n:=⟨_,rfl⟩
 have HB:=Lib.hid (show befP n u v↔tu<tv∨(tu=tv∧lexP n u v) from by rw [htu,htv];rfl)
 rw [←htu] at S1
 rw [←htv] at S2
 clear h1 h2 hs1 hs2 htu htv
 go_enter Tryz.func106,Tryz.ntmps106
 go_wp2_with fail
 go_at_call 140
 refine (S1.out w hww).mono ?_
 rintro e wa ⟨rfl,hxa⟩
 go_wp2_with fail
 go_at_call 140
 refine (S2.out wa hxa).mono ?_
 rintro e wb ⟨rfl,hxb'⟩
 have hxb:=hxa.trans hxb'
 by_cases ht:tu=tv
 ·subst ht
  have d0:((tu:Int) == (tu:Int))=true:=by simp
  clear hxa hxb'
  go_wp2_with fail
  go_loopg [5] n (fun gg v5 wr=>∃ k:Nat,k≤n∧gg=n - k∧v5=.int .i64 k∧Ext w wr∧∀ i,i<k→u i=v i)
  case atStart=>exact ⟨0,by omega,rfl,rfl,hxb,fun i h=>by omega⟩
  case round=>
   obtain ⟨k,hk,rfl,rfl,hxr,hall⟩:=hrel
   have HA:=Lib.hid hall
   clear hall
   by_cases hlt:k<n
   ·have hlt':(k:Int)<(n:Int):=by omega
    obtain rfl:=H1.out.pa (by omega)
    obtain rfl:=H2.out.pa (by omega)
    have pb1:∀ w',Ext w w'→g1<w'.heap.size:=fun w' x=>Nat.lt_of_lt_of_le (H1.out.pb (by omega)) x.le
    have pb2:∀ w',Ext w w'→g2<w'.heap.size:=fun w' x=>Nat.lt_of_lt_of_le (H2.out.pb (by omega)) x.le
    obtain ⟨x,hx⟩:∃ x,x=u k:=⟨_,rfl⟩
    obtain ⟨y,hy⟩:∃ y,y=v k:=⟨_,rfl⟩
    have p1:∀ w',Ext w w'→w'.cell? ⟨g1,o1+k,none⟩=some (.int .i64 (x:Int)):=fun w' h=>by rw [hx];exact h.cell (H1.out.c k hlt)
    have q1:∀ w',Ext w w'→w'.cell? ⟨g2,o2+k,none⟩=some (.int .i64 (y:Int)):=fun w' h=>by rw [hy];exact h.cell (H2.out.c k hlt)
    have HX:=Lib.hid (And.intro hx hy)
    clear hx hy
    by_cases e:x=y
    ·subst e
     have d1:((x:Int) == (x:Int))=true:=by simp
     go_upto_region 6 with fail
     go_quiet (fail)
     have hq:=hxr.drewN nq
     go_wp2_with fail
     go_roundg (n - (k+1))
     case rel=>exact ⟨k+1,by omega,rfl,by go_num,hq,fun i hi=>by
      by_cases e:i=k
      ·subst e;rw [←HX.out.1,←HX.out.2]
      ·exact HA.out i (by omega)⟩
     case measure=>omega
    ·have d1:((x:Int) == (y:Int))=false:=by simpa using fun h:(x:Int)=y=>e (by omega)
     by_cases hxy:x<y
     ·have d2:decide ((x:Int)<(y:Int))=true:=decide_eq_true (by omega)
      have d2':decide (x<y)=true:=decide_eq_true hxy
      have HT:=Lib.hid (HB.out.2 (.inr ⟨by first | rfl | trivial,k,hlt,HA.out,by rw [←HX.out.1,←HX.out.2];exact hxy⟩))
      clear hxy e
      go_upto_region 6 with fail
      go_quiet (fail)
      have hq:=hxr.drewN nq
      go_upto_region 7 with fail
      generalize wr.drewN nq=ws at hq ⊢
      go_quiet (fail)
      go_wp2_with fail
      go_ret
      exact ⟨true,rfl,⟨fun _=>HT.out,fun _=>rfl⟩,hq.drewN _⟩
     ·have d2:decide ((x:Int)<(y:Int))=false:=decide_eq_false (by omega)
      have d2':decide (x<y)=false:=decide_eq_false hxy
      have HT:=Lib.hid (show ¬befP n u v from fun h=>by
       rcases HB.out.1 h with h | ⟨_,p,hp,h3,h4⟩
       ·omega
       ·rcases Nat.lt_trichotomy p k with c | c | c
        ·have:=HA.out p c;omega
        ·subst c;rw [←HX.out.1,←HX.out.2] at h4;exact hxy h4
        ·have:=h3 k c;rw [←HX.out.1,←HX.out.2] at this;exact e this)
      clear hxy e
      go_upto_region 6 with fail
      go_quiet (fail)
      have hq:=hxr.drewN nq
      go_upto_region 7 with fail
      generalize wr.drewN nq=ws at hq ⊢
      go_quiet (fail)
      go_wp2_with fail
      go_ret
      exact ⟨false,rfl,⟨fun h=>(by cases h),fun h=>absurd h HT.out⟩,hq.drewN _⟩
   ·obtain rfl:k=n:=by omega
    have HT:=Lib.hid (show ¬befP k u v from fun h=>by
     rcases HB.out.1 h with h | ⟨_,p,hp,h3,h4⟩
     ·omega
     ·have:=HA.out p hp;omega)
    go_wp2_with fail
    go_ret
    exact ⟨false,rfl,⟨fun h=>(by cases h),fun h=>absurd h HT.out⟩,hxr⟩
 ·have d0:((tu:Int) == (tv:Int))=false:=by simpa using fun h:(tu:Int)=tv=>ht (by omega)
  have d0':(tu == tv)=false:=by simpa using ht
  have HT:=Lib.hid (show befP n u v↔tu<tv from HB.out.trans ⟨fun h=>h.resolve_right fun k=>ht k.1,.inl⟩)
  go_wp2_with fail
  go_at_call 140
  refine (S1.out wb hxb).mono ?_
  rintro e wc ⟨rfl,hxc'⟩
  have hxc:=hxb.trans hxc'
  go_wp2_with fail
  go_at_call 140
  refine (S2.out wc hxc).mono ?_
  rintro e wd ⟨rfl,hxd'⟩
  have hxd:=hxc.trans hxd'
  by_cases hl:tu<tv
  ·have d2:decide ((tu:Int)<(tv:Int))=true:=decide_eq_true (by omega)
   have d2':decide (tu<tv)=true:=decide_eq_true hl
   go_wp2_with fail
   go_ret
   exact ⟨true,ret_bool (by first | rfl | simp [hl]),⟨fun _=>HT.out.2 hl,fun _=>rfl⟩,hxd⟩
  ·have d2:decide ((tu:Int)<(tv:Int))=false:=decide_eq_false (by omega)
   have d2':decide (tu<tv)=false:=decide_eq_false hl
   go_wp2_with fail
   go_ret
   exact ⟨false,ret_bool (by first | rfl | simp [hl]),⟨fun h=>(by cases h),fun h=>absurd (HT.out.1 h) hl⟩,hxd⟩
end Go.Proofs.YtkhgpockmaghjaaGreat

namespace Go.Proofs.YtkhgpockmaghjaaGreat
open Go.RowKit Go.Shelf
theorem rowC_len (f:Nat→Int) (n:Nat):(intCells (rowL f n)).length=n:=by simp [rowL,intCells]
theorem NumAt.src {w:World} {n:Nat} {a:Option Addr} {g o:Nat} {v:Nat→Int} (h:NumAt w n a g o v) (c:Nat):Src Tryz.prog 1 39 (.slice a n c) n (intCells (rowL v n)) w:=by
 by_cases h0:0<n
 ·rw [h.pa h0]
  refine Src.ofSlice w Tryz.underlying39 ⟨g,o,none⟩ n c _ (by rw [rowC_len,Nat.mul_one]) (fun j u hu=>?_) (intCells_one _)
  have hj:j<n:=by
   have h2:=(List.getElem?_eq_some_iff.1 hu).1
   rw [rowC_len] at h2;exact h2
  rw [rowL_get _ hj] at hu
  cases hu
  rw [Addr.add_lit];exact h.c j hj
 ·obtain rfl:n=0:=by omega
  cases a with
  | none => exact Src.ofNil w Tryz.underlying39 _
  | some a => exact Src.ofSlice w Tryz.underlying39 a 0 _ [] (by simp) (by intro _ _ h';simp at h') (by intro u hu;cases hu)
def RowPost (n:Nat) (c:Nat→Nat) (w:World) (e:Ending) (w':World):Prop:=Ext w w'∧∃ g o cap,e=.returned (.slice (some ⟨g,o,none⟩) n cap)∧NumAt w' n (some ⟨g,o,none⟩) g o (natV c)∧w.heap.size≤g
set_option maxHeartbeats 1000000 in
theorem rstep_any (w : World) (a : Option Addr) (g o n cap : Nat) (c : Nat → Nat) (h : NumAt w n a g o (natV c)) (p : Nat) (hp : p < n) (hn : n ≤ 1000) (hc : c p ≤ 100000) :
    Calls Tryz.prog 40 #[.slice a n cap,.int .i64 p] w (RowPost n (upC c p) w):=by
 obtain ⟨j0,hj0,hy0,hy1,hy2⟩:=info_parts infoInt
 have HC:=Lib.hid h
 have hp':(p:Int)<(n:Int):=by omega
 unfold RowPost
 clear h
 go_enter Tryz.func40,Tryz.ntmps40
 go_upto_region 2 with (at_builtin;refine wpList_append_que _ rfl _ _ 39 39 rfl (base:=w.heap.size) (e:=3) (size:=1) j0 (.int .i64 0) 8 Tryz.underlying39 hj0 hy0 hy1 hy2 rfl rfl (v:=.slice (some ⟨w.heap.size,0,none⟩) 0 0) (n:=0) (xs:=[]) ⟨rfl,.inl ⟨_,rfl,rfl,fun a e=>by cases e;exact Nat.le_refl _⟩⟩ (by simp) (.slice a n cap) n (intCells (rowL (natV c) n)) rfl ((HC.out.ext (Ext.alloc _ _)).src cap) (by unfold maxLen;omega) (by omega) ?_;rintro v5 w5 hq5 hg5 -)
 rw [Nat.zero_add,List.nil_append] at hq5
 have hx5:Ext w w5:=((Below.refl _ w).alloc (Nat.le_refl _) _).grown hg5 (by simp) (by intro k hk;simp [Value.ownBlock] at hk;omega)
 rcases hq5.val with ⟨_,_,hn0,_⟩ | ⟨g5,o5,c5,rfl,q1,q2,q3,q4,q5,q6⟩
 ·omega
 have HQ5:=Lib.hid (fun j (hj:j<n)=>(q5 j (by omega)).trans (rowL_get (natV c) hj))
 obtain ⟨cp,hcp⟩:∃ z,z=c p:=⟨_,rfl⟩
 have HCP:=Lib.hid hcp
 have l5:∀ w',Ext w5 w'→g5<w'.heap.size:=fun w' x=>Nat.lt_of_lt_of_le q2 x.le
 have k5:∀ w',Ext w5 w'→w'.cell? ⟨g5,o5+p,none⟩=some (.int .i64 (cp:Int)):=fun w' x=>by rw [hcp];exact x.cell (HQ5.out p hp)
 have f5:∀ w',Ext w5 w'→w'.frozen? ⟨g5,o5+p,none⟩=false:=fun w' x=>(x.frozen (p:=⟨g5,o5+p,none⟩) q2).trans (q6 p (by omega)).2
 have hw1:IntKind.i64.wrap ((cp:Int)+1)=(cp:Int)+1:=IntWalk.i64_in _ (by omega)
 have h55:Ext w5 w5:=Ext.refl _
 have HQ:=Lib.hid (And.intro q1 q2)
 have HX5:=Lib.hid hx5
 clear hq5 hg5 q1 q2 q4 q5 q6 hcp hx5
 go_wp2_with fail
 go_ret
 refine ⟨HX5.out.setCell HQ.out.1 _,g5,o5,c5,rfl,⟨by omega,fun _=>rfl,fun _=>by rw [World.size_setCell];exact HQ.out.2,fun j hj=>?_⟩,HQ.out.1⟩
 by_cases e:j=p
 ·subst e
  refine (World.cell?_setCell_same _ _ _ (HQ5.out j hj)).trans ?_
  show _=some (Value.int .i64 ((upC c j j:Nat):Int))
  rw [upC_same,HCP.out];rfl
 ·refine Eq.trans (World.cell?_setCell_other _ _ _ _ fun h9=>?_) ((HQ5.out j hj).trans ?_)
  ·simp only [Addr.mk.injEq] at h9;omega
  ·show some (Value.int .i64 ((c j:Nat):Int))=some (Value.int .i64 ((upC c p j:Nat):Int))
   rw [upC_other e]
def Row.bef (n:Nat) (a b:Row):Prop:=befP n (fn a.l) (fn b.l)
def InsIs (n:Nat) (R:List Row) (r:Row) (R':List Row):Prop:=∃ k,k≤R.length∧(∀ j (hj:j<R.length),j<k→R[j].bef n r)∧(∀ hk:k<R.length,¬R[k].bef n r)∧
 ((∃ hk:k<R.length,R[k].l=r.l∧R'=R)∨((∀ hk:k<R.length,R[k].l≠r.l)∧R'=R.take k++r :: R.drop k))
structure RowOk (n:Nat) (r:Row):Prop where
 len:r.l.length=n
 sm:∀ p,p≤n→tot (fn r.l) p≤100000
theorem InsIs.mem {n:Nat} {R R':List Row} {r:Row} (h:InsIs n R r R'):(∀ x,x∈R'→x=r∨x∈R)∧∀ l,(∃ x∈R',x.l=l)↔(l=r.l∨∃ x∈R,x.l=l):=by
 obtain ⟨k,hk,_,_,⟨hkl,he,rfl⟩ | ⟨_,rfl⟩⟩:=h
 ·refine ⟨fun x hx=>.inr hx,fun l=>⟨fun h=>.inr h,?_⟩⟩
  rintro (rfl | h)
  ·exact ⟨_,List.getElem_mem hkl,he⟩
  ·exact h
 ·have key : ∀ x, x ∈ R.take k ++ r :: R.drop k ↔ x = r ∨ x ∈ R := fun x => by
    conv=>rhs;rw [←List.take_append_drop k R]
    simp only [List.mem_append,List.mem_cons]
    constructor
    ·rintro (h | h | h)
     ·exact .inr (.inl h)
     ·exact .inl h
     ·exact .inr (.inr h)
    ·rintro (h | h | h)
     ·exact .inr (.inl h)
     ·exact .inl h
     ·exact .inr (.inr h)
  refine ⟨fun x hx=>(key x).1 hx,fun l=>⟨?_,?_⟩⟩
  ·rintro ⟨x,hx,rfl⟩
   rcases (key x).1 hx with rfl | h
   ·exact .inl rfl
   ·exact .inr ⟨x,h,rfl⟩
  ·rintro (rfl | ⟨x,hx,rfl⟩)
   ·exact ⟨r,(key r).2 (.inl rfl),rfl⟩
   ·exact ⟨x,(key x).2 (.inr hx),rfl⟩
theorem InsIs.sorted {n:Nat} {R R':List Row} {r:Row} (h:InsIs n R r R') (hs:R.Pairwise (Row.bef n)) (hn:∀ x∈R,x.l.length=n) (hr:r.l.length=n):R'.Pairwise (Row.bef n):=by
 obtain ⟨k,hk,hlt,hge,⟨hkl,he,rfl⟩ | ⟨hne,rfl⟩⟩:=h
 ·exact hs
 ·have hall : ∀ x ∈ R.take k, x.bef n r := fun x hx => by
    obtain ⟨j,hj,rfl⟩:=List.getElem_of_mem hx
    rw [List.length_take] at hj
    rw [List.getElem_take]
    exact hlt j (by omega) (by omega)
  have hdr:∀ x∈R.drop k,r.bef n x:=by
   by_cases hkl:k<R.length
   ·have h1 : r.bef n R[k] := by
      refine (befP_total (n:=n) (u:=fn R[k].l) (v:=fn r.l) fun h=>hne hkl ?_).resolve_left (hge hkl)
      exact fn_ext (by rw [hn _ (List.getElem_mem hkl),hr]) fun p hp=>h p (by rw [hn _ (List.getElem_mem hkl)] at hp;exact hp)
    intro x hx
    rw [List.drop_eq_getElem_cons hkl] at hx
    rcases List.mem_cons.1 hx with rfl | hx
    ·exact h1
    ·have h2:=hs.sublist (List.drop_sublist k R)
     rw [List.drop_eq_getElem_cons hkl] at h2
     exact befP_trans h1 ((List.pairwise_cons.1 h2).1 x hx)
   ·intro x hx
    rw [List.drop_of_length_le (by omega)] at hx;cases hx
  refine List.pairwise_append.2 ⟨hs.sublist (List.take_sublist k R),List.pairwise_cons.2 ⟨hdr,hs.sublist (List.drop_sublist k R)⟩,fun x hx y hy=>?_⟩
  rcases List.mem_cons.1 hy with rfl | hy
  ·exact hall x hx
  ·exact befP_trans (hall x hx) (hdr y hy)
theorem RowsQ.src {w:World} {base:Nat} {v:Value} {R:List Row} (h:RowsQ w base v R):Src Tryz.prog 1 47 v R.length (R.map Row.val) w:=Que.src h.1 Tryz.underlying47 (row_one R)
theorem infoInts1:(Tryz.prog.info? 39).map (fun i=>(i.zero,i.size,i.bytes))=some (some (.slice none 0 0),1,24):=by kernel_rfl
theorem rows_take {w:World} {g o:Nat} {R:List Row} (h:∀ k (hk:k<R.length) w',Ext w w'→w'.cell? ⟨g,o+k,none⟩=some (.slice R[k].a R[k].l.length R[k].c)) {k:Nat} (hk:k≤R.length) (cap:Nat) {w':World} (x:Ext w w'):Src Tryz.prog 1 47 (.slice (some ⟨g,o,none⟩) k cap) k ((R.take k).map Row.val) w':=by
 refine Src.ofSlice w' Tryz.underlying47 ⟨g,o,none⟩ k cap _ (by rw [List.length_map,List.length_take];omega) (fun j u hu=>?_) (row_one _)
 have hj:j<k∧j<R.length:=by
  have h2:=(List.getElem?_eq_some_iff.1 hu).1
  rw [List.length_map,List.length_take] at h2;omega
 rw [List.getElem?_map,List.getElem?_take_of_lt hj.1,List.getElem?_eq_getElem hj.2] at hu
 cases hu
 rw [Addr.add_lit];exact h j hj.2 w' x
theorem rows_drop {w:World} {g o:Nat} {R:List Row} (h:∀ k (hk:k<R.length) w',Ext w w'→w'.cell? ⟨g,o+k,none⟩=some (.slice R[k].a R[k].l.length R[k].c)) {k:Nat} (hk:k<R.length) (cap:Nat) {w':World} (x:Ext w w'):Src Tryz.prog 1 47 (.slice (some ⟨g,o+k,none⟩) (R.length - k) cap) (R.length - k) ((R.drop k).map Row.val) w':=by
 refine Src.ofSlice w' Tryz.underlying47 ⟨g,o+k,none⟩ (R.length - k) cap _ (by rw [List.length_map,List.length_drop];omega) (fun j u hu=>?_) (row_one _)
 have hj:k+j<R.length:=by
  have h2:=(List.getElem?_eq_some_iff.1 hu).1
  rw [List.length_map,List.length_drop] at h2;omega
 rw [List.getElem?_map,List.getElem?_drop,List.getElem?_eq_getElem hj] at hu
 cases hu
 rw [Addr.add_lit,Nat.add_assoc];exact h (k+j) hj w' x
def RinsPost (n base:Nat) (v:Value) (R:List Row) (r:Row) (w:World) (e:Ending) (w':World):Prop:=Ext w w'∧∃ v' R',e=.returned v'∧RowsQ w' base v' R'∧InsIs n R r R'∧(v'=v∨∀ g,v'.ownBlock=some g→w.heap.size≤g)
def CutL (T:Tr) (l:List Nat):Prop:=l.length=T.n∧T.CutOk (fn l)
theorem upC_tot {c:Nat→Nat}:∀ {n p:Nat},p<n→tot (upC c p) n=tot c n+1
 | 0,_,h => by omega
 | n+1,p,h => by
  show tot (upC c p) n+upC c p n=tot c n+c n+1
  by_cases e:p=n
  ·subst e
   have h1:tot (upC c p) p=tot c p:=Nat.le_antisymm (totS_le fun q hq=>by rw [upC_other (by omega)];exact Nat.le_refl _) (totS_le fun q _=>upC_ge c p q)
   rw [h1,upC_same];omega
  ·have:=upC_tot (c:=c) (n:=n) (p:=p) (by omega)
   rw [this,upC_other (fun h=>e h.symm)];omega
theorem tot_same {f g:Nat→Nat} {n:Nat} (hle:∀ p,p<n→f p≤g p) (he:tot f n=tot g n):∀ p,p<n→f p=g p:=fun p hp=>by
 have h1:=hle p hp
 refine Nat.le_antisymm h1 (Nat.le_of_not_lt fun hlt=>?_)
 have:=totS_lt hle hp hlt
 omega
theorem totS_congr {f g:Nat→Nat} {n:Nat} (h:∀ p,p<n→f p=g p):tot f n=tot g n:=Nat.le_antisymm (totS_le fun p hp=>by rw [h p hp];exact Nat.le_refl _) (totS_le fun p hp=>by rw [h p hp];exact Nat.le_refl _)
theorem Tr.CutOk.prev {T:Tr} (hV:T.Valid) {c:Nat→Nat} (hc:T.CutOk c):∀ (m:Nat) (d:Nat→Nat),T.CutOk d→(∀ q,q<T.n→d q≤c q)→tot c T.n=tot d T.n+m+1→∃ d p,T.CutOk d∧p<T.n∧T.On d p∧∀ q,q<T.n→upC d p q=c q
 | m,d,hd,hle,ht => by
  have hex:∃ p,p<T.n∧d p<c p:=Classical.byContradiction fun hn=>by
   have:tot c T.n≤tot d T.n:=totS_le fun p hp=>Nat.le_of_not_lt fun h=>hn ⟨p,hp,h⟩
   omega
  obtain ⟨p,hp,hlt⟩:=hex
  obtain ⟨q,hq,h1,h2⟩:=Tr.on_ex hV hc hp hlt
  have hup:=hd.up h2
  have hle2:∀ r,r<T.n→upC d q r≤c r:=fun r hr=>by
   by_cases e:r=q
   ·subst e;rw [upC_same];exact h1
   ·rw [upC_other e];exact hle r hr
  have ht2:=upC_tot (c:=d) hq
  cases m with
  | zero => exact ⟨d,q,hd,hq,h2,tot_same hle2 (by omega)⟩
  | succ m => exact Tr.CutOk.prev hV hc m (upC d q) hup hle2 (by omega)
noncomputable def Tr.nextOf (T:Tr) (l:List Nat):List (List Nat):=(T.onL (fn l) T.n).map fun p=>rowOf T.n (upC (fn l) p)
theorem Tr.mem_nextOf {T:Tr} {l m:List Nat}:m∈T.nextOf l↔∃ p,p<T.n∧T.On (fn l) p∧m=rowOf T.n (upC (fn l) p):=by
 unfold Tr.nextOf
 rw [List.mem_map]
 constructor
 ·rintro ⟨p,hp,rfl⟩;exact ⟨p,(Tr.mem_onL.1 hp).1,(Tr.mem_onL.1 hp).2,rfl⟩
 ·rintro ⟨p,h1,h2,rfl⟩;exact ⟨p,Tr.mem_onL.2 ⟨h1,h2⟩,rfl⟩
theorem CutL.next {T:Tr} {l m:List Nat} (h:CutL T l) (hm:m∈T.nextOf l):CutL T m∧tot (fn m) T.n=tot (fn l) T.n+1:=by
 obtain ⟨p,hp,ho,rfl⟩:=Tr.mem_nextOf.1 hm
 refine ⟨⟨rowOf_len _ _,(h.2.up ho).congr fun q hq=>fn_rowOf hq⟩,?_⟩
 rw [totS_congr (g:=upC (fn l) p) fun q hq=>fn_rowOf hq,upC_tot hp]
theorem CutL.prev {T:Tr} (hV:T.Valid) {m:List Nat} (h:CutL T m) (h0:0<tot (fn m) T.n):∃ l,CutL T l∧tot (fn l) T.n+1=tot (fn m) T.n∧m∈T.nextOf l:=by
 have hz:tot (fun _=>0) T.n=0:=by
  have:∀ n,tot (fun _=>0) n=0:=fun n=>by induction n with | zero=>rfl | succ n ih=>exact ih
  exact this _
 obtain ⟨d,p,hd,hp,ho,he⟩:=h.2.prev hV (tot (fn m) T.n - 1) (fun _=>0) (Tr.CutOk.zero T) (fun _ _=>Nat.zero_le _) (by omega)
 have hf:∀ q,q<T.n→fn (rowOf T.n d) q=d q:=fun q hq=>fn_rowOf hq
 have hc:CutL T (rowOf T.n d):=⟨rowOf_len _ _,hd.congr hf⟩
 have hup:∀ q,q<T.n→upC (fn (rowOf T.n d)) p q=upC d p q:=fun q hq=>by unfold upC;rw [hf q hq]
 have hon:T.On (fn (rowOf T.n d)) p:=Tr.On.of_up hV hp ((hd.up ho).congr hup)
 refine ⟨rowOf T.n d,hc,?_,Tr.mem_nextOf.2 ⟨p,hp,hon,?_⟩⟩
 ·have h1:=upC_tot (c:=d) hp
  rw [totS_congr he] at h1
  rw [totS_congr hf];omega
 ·exact fn_ext (by rw [h.1, rowOf_len]) fun q hq => by
    rw [h.1] at hq
    rw [fn_rowOf hq,hup q hq,he q hq]
theorem level_next {T:Tr} (hV:T.Valid) {P:List Nat→Prop} {k:Nat} (hP:∀ l,P l↔(CutL T l∧tot (fn l) T.n=k)) (m:List Nat):(∃ l,P l∧m∈T.nextOf l)↔(CutL T m∧tot (fn m) T.n=k+1):=by
 constructor
 ·rintro ⟨l,hl,hm⟩
  obtain ⟨h1,h2⟩:=(hP l).1 hl
  obtain ⟨h3,h4⟩:=h1.next hm
  exact ⟨h3,by omega⟩
 ·rintro ⟨h1,h2⟩
  obtain ⟨l,h3,h4,h5⟩:=h1.prev hV (by omega)
  exact ⟨l,(hP l).2 ⟨h3,by omega⟩,h5⟩
theorem level_none {T:Tr} (hV:T.Valid) {k:Nat} (hn:∀ l,¬(CutL T l∧tot (fn l) T.n=k)):∀ (j:Nat) (l:List Nat),CutL T l→tot (fn l) T.n≠k+j
 | 0,l,h,he => hn l ⟨h,he⟩
 | j+1,l,h,he => by
  obtain ⟨m,h1,h2,_⟩:=h.prev hV (by omega)
  exact level_none hV hn j m h1 (by omega)
theorem CutL.small {T:Tr} (hV:T.Valid) {l:List Nat} (h:CutL T l) {p:Nat} (hp:p≤T.n):tot (fn l) p≤512:=by
 have h1:tot (fn l) p≤tot T.en p:=totS_le fun q hq=>h.2.le q (by omega)
 have h2:=tot_small (f:=T.en) (c:=64) (n:=p) (fun q hq=>hV.en64 (by omega))
 have:=hV.n8
 omega
theorem CutL.val {T:Tr} (hV:T.Valid) {l:List Nat} (h:CutL T l) {p:Nat} (hp:p<T.n):fn l p≤64:=Nat.le_trans (h.2.le p hp) (hV.en64 hp)
theorem CutL.ok {T:Tr} (hV:T.Valid) {r:Row} (h:CutL T r.l):RowOk T.n r:=⟨h.1,fun p hp=>by have:=h.small hV hp;omega⟩
def IsCuts (T:Tr) (L:List (List Nat)):Prop:=L.Pairwise (fun a b=>befP T.n (fn a) (fn b))∧∀ l,l∈L↔CutL T l
theorem NumAt.blk {w w':World} {n:Nat} {a:Option Addr} {g o:Nat} {v:Nat→Int} (h:NumAt w n a g o v) (e:w'.heap[g]?=w.heap[g]?) (hl:w.heap.size≤w'.heap.size):NumAt w' n a g o v:=
 ⟨h.hn,h.pa,fun h0=>Nat.lt_of_lt_of_le (h.pb h0) hl,fun k hk=>(World.cell?_of_block (w:=w) (a:=⟨g,o+k,none⟩) e).trans (h.c k hk)⟩
theorem RowsQ.app {w w':World} {base:Nat} {v v':Value} {R S:List Row} (hR:RowsQ w base v R) (hS:∀ x∈S,x.At w) (hp:∀ x∈R++S,0<x.l.length) (ha:∀ x∈R++S,v.ownBlock≠some x.g) (hq:Que w' base 1 v' (R.length+S.length) (R.map Row.val++S.map Row.val)) (hg:w.grownBy w' v.ownBlock):RowsQ w' base v' (R++S):=by
 refine ⟨by rw [List.length_append,List.map_append];exact hq,fun x hx=>?_⟩
 have h1:x.At w:=(List.mem_append.1 hx).elim (hR.2 x) (hS x)
 exact NumAt.blk h1 (hg.block x.g (NumAt.pb h1 (hp x hx)) (fun e=>ha x hx e.symm)) hg.size
theorem RowsQ.app_apart {w:World} {v v':Value} {R:List Row} (hA:∀ x∈R,x.At w) (hp:∀ x∈R,0<x.l.length) (ha:∀ x∈R,v.ownBlock≠some x.g) (ho:v'.ownBlock=v.ownBlock∨v'.ownBlock=some w.heap.size):∀ x∈R,v'.ownBlock≠some x.g:=fun x hx e=>by
 rcases ho with h | h
 ·exact ha x hx (h▸e)
 ·rw [h] at e
  have:=NumAt.pb (hA x hx) (hp x hx)
  have:w.heap.size=x.g:=by simpa using e
  omega
theorem isCut_iff {T:Tr} (hV:T.Valid) {c:Nat→Nat}:T.IsCut T.n (natV c)↔T.CutOk c:=by
 refine ⟨fun h=>⟨fun p hp=>?_,fun x hx hl h3=>?_⟩,cut_isCut hV⟩
 ·have:=h.2.1 p hp
  have:(c p:Int)≤T.en p:=this.2
  omega
 ·have h1:=h.2.2 x hx (by show (x.2:Int)<(c x.1:Int);omega) h3
  have h2:((T.sndN x).2:Int)<(c (T.sndN x).1:Int):=h1
  omega
def RnextPost (T:Tr) (l:List Nat) (w:World) (e:Ending) (w':World):Prop:=Ext w w'∧∃ v R,e=.returned v∧RowsQ w' w.heap.size v R∧R.map Row.l=T.nextOf l∧∀ x∈R,w.heap.size≤x.g
theorem Que.ofHold1 {w:World} {b base:Nat} {u:Value} (h:Hold w b #[u]) (hb:base≤b):Que w base 1 (.slice (some ⟨b,0,none⟩) 1 1) 1 [u]:=by
 have hx:=h.box
 refine ⟨rfl,.inr ⟨b,0,1,rfl,hb,h.lt,Nat.le_refl _,by unfold maxLen;omega,fun j hj=>?_,fun j hj=>?_⟩⟩
 ·obtain rfl:j=0:=by omega
  exact hx.cell w (Ext.refl _) 0
 ·obtain rfl:j=0:=by omega
  exact ⟨by rw [show (0+0:Nat)=0 from rfl,hx.cell w (Ext.refl _) 0];rfl,hx.frozen w (Ext.refl _) _⟩
structure LstI (T:Tr) (w1:World) (k B:Nat) (v4 v5:Value) (RL RO:List Row) (wr:World):Prop where
 q4:RowsQ wr B v4 RL
 q5:RowsQ wr w1.heap.size v5 RO
 hx:Ext w1 wr
 hB:w1.heap.size≤B∧B≤wr.heap.size
 g4:∀ x∈RL,B≤x.g
 o5:∀ g,v5.ownBlock=some g→g<B
 a5:∀ x∈RO,v5.ownBlock≠some x.g
 s4:RL.Pairwise (Row.bef T.n)
 m4:∀ l,(∃ x∈RL,x.l=l)↔(CutL T l∧tot (fn l) T.n=k)
 s5:RO.Pairwise (Row.bef T.n)
 m5:∀ l,(∃ x∈RO,x.l=l)↔(CutL T l∧tot (fn l) T.n<k)
 n4:RL.length≤40000
 n5:RO.length≤5000
structure NlI (T:Tr) (w4:World) (v6:Value) (RM:List Row) (P:List Nat→Prop) (m:Nat) (wr:World):Prop where
 q:RowsQ wr w4.heap.size v6 RM
 hx:Ext w4 wr
 g:∀ x∈RM,w4.heap.size≤x.g
 s:RM.Pairwise (Row.bef T.n)
 mem:∀ l,(∃ x∈RM,x.l=l)↔P l
 len:RM.length≤m
 ok:∀ x∈RM,CutL T x.l
theorem NlI.like {T:Tr} {w4:World} {v6:Value} {RM:List Row} {P P':List Nat→Prop} {m m':Nat} {wr:World} (h:NlI T w4 v6 RM P m wr) (hp:∀ l,P l↔P' l) (hm:m≤m'):NlI T w4 v6 RM P' m' wr:=
 ⟨h.q,h.hx,h.g,h.s,fun l=>(h.mem l).trans (hp l),Nat.le_trans h.len hm,h.ok⟩
theorem NlI.ext {T:Tr} {w4:World} {v6:Value} {RM:List Row} {P:List Nat→Prop} {m:Nat} {wr w':World} (h:NlI T w4 v6 RM P m wr) (x:Ext wr w'):NlI T w4 v6 RM P m w':=
 ⟨h.q.ext x,h.hx.trans x,h.g,h.s,h.mem,h.len,h.ok⟩
theorem InsIs.len {n:Nat} {R R':List Row} {r:Row} (h:InsIs n R r R'):R'.length≤R.length+1:=by
 obtain ⟨k,hk,_,_,⟨_,_,rfl⟩ | ⟨_,rfl⟩⟩:=h
 ·omega
 ·rw [List.length_append,List.length_cons,List.length_take,List.length_drop];omega
theorem NlI.ins {T:Tr} {w4:World} {v6 v':Value} {RM R':List Row} {P:List Nat→Prop} {m:Nat} {wr w':World} (h:NlI T w4 v6 RM P m wr) {r:Row} (hi:InsIs T.n RM r R') (hq:RowsQ w' w4.heap.size v' R') (x:Ext wr w') (hr:CutL T r.l) (hg:w4.heap.size≤r.g):NlI T w4 v' R' (fun l=>P l∨l=r.l) (m+1) w':=by
 refine ⟨hq,h.hx.trans x,fun y hy=>?_,hi.sorted h.s (fun y hy=>(h.ok y hy).1) hr.1,fun l=>(hi.mem.2 l).trans ⟨fun k=>k.elim (fun e=>.inr e) fun e=>.inl ((h.mem l).1 e),fun k=>k.elim (fun e=>.inr ((h.mem l).2 e)) .inl⟩,Nat.le_trans hi.len (Nat.add_le_add_right h.len 1),fun y hy=>?_⟩
 ·rcases hi.mem.1 y hy with rfl | k
  ·exact hg
  ·exact h.g y k
 ·rcases hi.mem.1 y hy with rfl | k
  ·exact hr
  ·exact h.ok y k
theorem nextOf_len (T:Tr) (l:List Nat):(T.nextOf l).length≤T.n:=by unfold Tr.nextOf;rw [List.length_map];exact T.onL_len _ _
def RlistPost (T:Tr) (w:World) (e:Ending) (w':World):Prop:=Ext w w'∧((∃ v R,e=.returned (.tuple #[v,.bool true])∧RowsQ w' w.heap.size v R∧IsCuts T (R.map Row.l)∧R.length≤5000)∨
 (e=.returned (.tuple #[.slice none 0 0,.bool false])∧∃ L:List (List Nat),L.Pairwise (fun a b=>befP T.n (fn a) (fn b))∧(∀ l∈L,CutL T l)∧5000<L.length))
theorem bef_map {n:Nat} {R:List Row}:(R.map Row.l).Pairwise (fun a b=>befP n (fn a) (fn b))↔R.Pairwise (Row.bef n):=List.pairwise_map
structure WRow (w:World) (g o n:Nat) (c:Nat→Nat):Prop where
 c:∀ k,k<n→w.cell? ⟨g,o+k,none⟩=some (.int .i64 (c k:Int))
 fr:∀ k,k<n→w.frozen? ⟨g,o+k,none⟩=false
 lt:g<w.heap.size
theorem WRow.ext {w w':World} {g o n:Nat} {c:Nat→Nat} (h:WRow w g o n c) (x:Ext w w'):WRow w' g o n c:=
 ⟨fun k hk=>x.cell (h.c k hk),fun k hk=>(x.frozen (p:=⟨g,o+k,none⟩) h.lt).trans (h.fr k hk),Nat.lt_of_lt_of_le h.lt x.le⟩
theorem WRow.like {w:World} {g o n:Nat} {c c':Nat→Nat} (h:WRow w g o n c) (e:∀ k,k<n→c' k=c k):WRow w g o n c':=⟨fun k hk=>by rw [e k hk];exact h.c k hk,h.fr,h.lt⟩
theorem WRow.num {w:World} {g o n:Nat} {c:Nat→Nat} (h:WRow w g o n c) (hn:n≤140737488355328):NumAt w n (some ⟨g,o,none⟩) g o (natV c):=⟨hn,fun _=>rfl,fun _=>h.lt,h.c⟩
theorem WRow.set {w:World} {g o n:Nat} {c:Nat→Nat} (h:WRow w g o n c) (q x:Nat):WRow (w.setCell ⟨g,o+q,none⟩ (.int .i64 (x:Int))) g o n (fun j=>if j=q then x else c j):=by
 refine ⟨fun k hk=>?_,fun k hk=>?_,by rw [World.size_setCell];exact h.lt⟩
 ·by_cases e:k=q
  ·subst e;rw [if_pos rfl];exact World.cell?_setCell_same _ _ _ (h.c k hk)
  ·rw [if_neg e];refine Eq.trans ?_ (h.c k hk);apply World.cell?_setCell_other;intro h9;simp only [Addr.mk.injEq] at h9;omega
 ·rw [frozen_set];exact h.fr k hk
end Go.Proofs.YtkhgpockmaghjaaGreat
