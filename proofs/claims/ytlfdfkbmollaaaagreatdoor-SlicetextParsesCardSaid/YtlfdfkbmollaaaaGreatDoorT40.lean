/- Contracts and laws in plain Lean for RApp: group T40. -/
import Derived.Test.YtlfdfkbmollaaaaGreatDoorT01
import Derived.Shelf.SlSortCmp.InsertionK
import Derived.Lib.Small
import Derived.Test.YtlfdfkbmollaaaaGreatDoorT38
import Derived.Lib.SliceRun
import Derived.Laws.IdiomCopy
import Derived.Lib.LazyBuf
import Derived.BigFrame
set_option maxRecDepth 100000
namespace Go.Proofs.YtlfdfkbmollaaaaGreatDoor
open Go.RowKit Go.Shelf
set_option maxHeartbeats 1000000 in
theorem isNaN_any (a:Int) (w:World):Calls Tryz.prog 152 #[.int .i64 a] w fun e w'=>e=.returned (.bool false)∧w=w':=by
 go_enter Tryz.func152,Tryz.ntmps152
 go_wp2
 go_ret
 exact ⟨by simp,rfl⟩
set_option maxHeartbeats 1000000 in
theorem cmpInt_any (a b:Int) (w:World):Calls Tryz.prog 110 #[.int .i64 a,.int .i64 b] w fun e w'=>e=.returned (.int .i64 (Lib.compareInt a b))∧w=w':=by
 unfold Lib.compareInt
 by_cases h:a<b
 ·rw [if_pos h]
  go_enter Tryz.func110,Tryz.ntmps110
  go_wp2_with (go_at_call 152;refine (isNaN_any _ _).mono ?_;rintro e w' ⟨rfl,rfl⟩)
  go_ret
  exact ⟨rfl,rfl⟩
 ·rw [if_neg h]
  by_cases h2:a > b
  ·rw [if_pos h2]
   go_enter Tryz.func110,Tryz.ntmps110
   go_wp2_with (go_at_call 152;refine (isNaN_any _ _).mono ?_;rintro e w' ⟨rfl,rfl⟩)
   go_ret
   exact ⟨rfl,rfl⟩
  ·rw [if_neg h2]
   go_enter Tryz.func110,Tryz.ntmps110
   go_wp2_with (go_at_call 152;refine (isNaN_any _ _).mono ?_;rintro e w' ⟨rfl,rfl⟩)
   go_ret
   exact ⟨rfl,rfl⟩
set_option maxHeartbeats 1000000 in
theorem cmpOr_any (w : World) (g : Nat) (x y : Int) (c0 : w.cell? ⟨g, 0, none⟩ = some (.int .i64 x)) (c1 : w.cell? ⟨g, 1, none⟩ = some (.int .i64 y)) :
    Calls Tryz.prog 109 #[.slice (some ⟨g,0,none⟩) 2 2] w fun e w'=>e=.returned (.int .i64 (if (x != 0)=true then x else y))∧w=w':=by
 cases hx:(x != 0) with
 | true =>
  rw [if_pos rfl]
  go_enter Tryz.func109,Tryz.ntmps109
  go_wp2
  refine wp_loop_rounds 1 ?_
  rw [rounds_succ]
  go_wp2
  go_ret
  exact ⟨rfl,rfl⟩
 | false =>
  rw [if_neg (by simp)]
  cases hy:(y != 0) with
  | true =>
   go_enter Tryz.func109,Tryz.ntmps109
   go_wp2
   refine wp_loop_rounds 2 ?_
   rw [rounds_succ]
   go_wp2
   rw [rounds_succ]
   go_wp2
   go_ret
   exact ⟨rfl,rfl⟩
  | false =>
   have hy0:y=0:=by simpa using hy
   have HY:=Lib.hid hy0
   clear hy0
   go_enter Tryz.func109,Tryz.ntmps109
   go_wp2
   refine wp_loop_rounds 3 ?_
   rw [rounds_succ]
   go_wp2
   rw [rounds_succ]
   go_wp2
   rw [rounds_succ]
   go_wp2
   go_ret
   exact ⟨ret_int HY.out.symm,rfl⟩
open Classical in
noncomputable def cmpN (n:Nat) (u v:Nat→Nat):Int:=if lexP n u v then -1 else if lexP n v u then 1 else 0
theorem cmpN_lt {n:Nat} {u v:Nat→Nat} (h:lexP n u v):cmpN n u v=-1:=by unfold cmpN;rw [if_pos h]
theorem lexP_asymm {n:Nat} {u v:Nat→Nat} (h:lexP n u v):¬lexP n v u:=fun k=>lexP_irrefl n u (lexP_trans h k)
theorem cmpN_gt {n:Nat} {u v:Nat→Nat} (h:lexP n v u):cmpN n u v=1:=by unfold cmpN;rw [if_neg (lexP_asymm h),if_pos h]
theorem cmpN_eq {n:Nat} {u v:Nat→Nat} (h:∀ q,q<n→u q=v q):cmpN n u v=0:=by
 unfold cmpN
 rw [if_neg,if_neg]
 ·rintro ⟨p,hp,_,h2⟩;have:=h p hp;omega
 ·rintro ⟨p,hp,_,h2⟩;have:=h p hp;omega
theorem cmpN_neg {n:Nat} {u v:Nat→Nat}:cmpN n u v<0↔lexP n u v:=by
 unfold cmpN
 split
 ·next h=>exact ⟨fun _=>h,fun _=>by decide⟩
 ·next h=>exact ⟨fun k=>by split at k <;> omega,fun k=>absurd k h⟩
set_option maxHeartbeats 1000000 in
theorem cmpr_any (w : World) (a1 a2 : Option Addr) (g1 o1 g2 o2 n c1 c2 : Nat) (u v : Nat → Nat) (h1 : NumAt w n a1 g1 o1 (natV u)) (h2 : NumAt w n a2 g2 o2 (natV v)) :
    Calls Tryz.prog 112 #[.slice a1 n c1,.slice a2 n c2] w fun e w'=>e=.returned (.int .i64 (cmpN n u v))∧w=w':=by
 have hn1:=h1.hn
 have H1:=Lib.hid h1
 have H2:=Lib.hid h2
 have hww:Ext w w:=Ext.refl _
 obtain ⟨r,hr⟩:∃ r,r=cmpN n u v:=⟨_,rfl⟩
 have HR:=Lib.hid hr
 rw [←hr]
 clear h1 h2 hr
 go_enter Tryz.func112,Tryz.ntmps112
 go_wp2_with fail
 go_loopg [11] n (fun gg v11 wr=>∃ k:Nat,k≤n∧gg=n - k∧v11=.int .i64 k∧wr=w∧∀ i,i<k→u i=v i)
 case atStart=>exact ⟨0,by omega,rfl,rfl,rfl,fun i h=>by omega⟩
 case round=>
  obtain ⟨k,hk,rfl,rfl,rfl,hall⟩:=hrel
  have HA:=Lib.hid hall
  clear hall
  by_cases hlt:k<n
  ·have hlt':(k:Int)<(n:Int):=by omega
   obtain rfl:=H1.out.pa (by omega)
   obtain rfl:=H2.out.pa (by omega)
   have pb1:∀ w',Ext wr w'→g1<w'.heap.size:=fun w' x=>Nat.lt_of_lt_of_le (H1.out.pb (by omega)) x.le
   have pb2:∀ w',Ext wr w'→g2<w'.heap.size:=fun w' x=>Nat.lt_of_lt_of_le (H2.out.pb (by omega)) x.le
   obtain ⟨x,hx⟩:∃ x,x=u k:=⟨_,rfl⟩
   obtain ⟨y,hy⟩:∃ y,y=v k:=⟨_,rfl⟩
   have p1:∀ w',Ext wr w'→w'.cell? ⟨g1,o1+k,none⟩=some (.int .i64 (x:Int)):=fun w' h=>by rw [hx];exact h.cell (H1.out.c k hlt)
   have q1:∀ w',Ext wr w'→w'.cell? ⟨g2,o2+k,none⟩=some (.int .i64 (y:Int)):=fun w' h=>by rw [hy];exact h.cell (H2.out.c k hlt)
   have HX:=Lib.hid (And.intro hx hy)
   have hc:=cmpInt_any (x:Int) (y:Int) wr
   unfold Lib.compareInt at hc
   clear hx hy
   rcases Nat.lt_trichotomy x y with e | e | e
   ·rw [if_pos (by omega)] at hc
    have HL:=Lib.hid (show r=-1 from by rw [HR.out];exact cmpN_lt ⟨k,hlt,HA.out,by rw [←HX.out.1,←HX.out.2];exact e⟩)
    clear e
    go_wp2_with fail
    go_at_call 110
    refine hc.mono ?_
    rintro e w2 ⟨rfl,rfl⟩
    clear hc
    go_wp2_with fail
    go_ret
    exact ⟨ret_int HL.out.symm,rfl⟩
   ·subst e
    rw [if_neg (by omega),if_neg (by omega)] at hc
    go_wp2_with fail
    go_at_call 110
    refine hc.mono ?_
    rintro e w2 ⟨rfl,rfl⟩
    clear hc
    go_wp2_with fail
    go_roundg (n - (k+1))
    case rel=>exact ⟨k+1,by omega,rfl,by go_num,rfl,fun i hi=>by
     by_cases e:i=k
     ·subst e;rw [←HX.out.1,←HX.out.2]
     ·exact HA.out i (by omega)⟩
    case measure=>omega
   ·rw [if_neg (by omega),if_pos (by omega)] at hc
    have HL:=Lib.hid (show r=1 from by rw [HR.out];exact cmpN_gt ⟨k,hlt,fun q hq=>(HA.out q hq).symm,by rw [←HX.out.1,←HX.out.2];exact e⟩)
    clear e
    go_wp2_with fail
    go_at_call 110
    refine hc.mono ?_
    rintro e w2 ⟨rfl,rfl⟩
    clear hc
    go_wp2_with fail
    go_ret
    exact ⟨ret_int HL.out.symm,rfl⟩
  ·obtain rfl:k=n:=by omega
   have HL:=Lib.hid (show r=0 from by rw [HR.out];exact cmpN_eq HA.out)
   go_wp2_with fail
   go_ret
   exact ⟨ret_int HL.out.symm,rfl⟩
end Go.Proofs.YtlfdfkbmollaaaaGreatDoor

namespace Go.Proofs.YtlfdfkbmollaaaaGreatDoor
open Go.RowKit Go.Shelf
instance:Inhabited Row:=⟨⟨[],none,0,0,0⟩⟩
end Go.Proofs.YtlfdfkbmollaaaaGreatDoor
