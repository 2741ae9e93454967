/- Contracts and laws in plain Lean for RApp: group T70. -/
import Derived.Test.YtlfdfkbmollaaaaGreatDoorT63
import Derived.Test.YtlfdfkbmollaaaaGreatDoorT18
import Derived.Test.YtlfdfkbmollaaaaGreatDoorT20
import Derived.Test.YtlfdfkbmollaaaaGreatDoorT02
import Derived.Laws.EntriesVeiled
import Derived.Test.YtlfdfkbmollaaaaGreatDoorT06
import Derived.Test.YtlfdfkbmollaaaaGreatDoorT34
set_option maxRecDepth 100000
namespace Go.Proofs.YtlfdfkbmollaaaaGreatDoor
open Go.Shelf
def Tryz.lays166_ren:Go.Shelf.Ren:=⟨fun | 166=>49 | 240=>103 | 276=>146 | n=>n,fun | 0=>0 | 3=>3 | 4=>4 | 9=>9 | 20=>20 | 37=>101 | 70=>100 | 72=>103 | 75=>105 | 80=>113 | 164=>206 | 5=>5 | n=>n,fun | n=>n⟩
theorem Tryz.lays166:Go.Proofs.Lays.n166 Tryz.prog Tryz.lays166_ren:={
 mixed:=by kernel_rfl
 f166:=Tryz.func49.trans (congrArg some (by kernel_rfl))
 f240:=Tryz.func103.trans (congrArg some (by kernel_rfl))
 f276:=Tryz.func146.trans (congrArg some (by kernel_rfl))
 t0:=Tryz.underlying0
 a0:=Tryz.isAgg0
 z0:=Tryz.sizeOf0
 v0:=Tryz.zeroValue0
 t3:=Tryz.underlying3
 a3:=Tryz.isAgg3
 z3:=Tryz.sizeOf3
 v3:=Tryz.zeroValue3
 t4:=Tryz.underlying4
 a4:=Tryz.isAgg4
 z4:=Tryz.sizeOf4
 v4:=Tryz.zeroValue4
 t9:=Tryz.underlying9
 a9:=Tryz.isAgg9
 z9:=Tryz.sizeOf9
 v9:=Tryz.zeroValue9
 t20:=Tryz.underlying20
 a20:=Tryz.isAgg20
 z20:=Tryz.sizeOf20
 v20:=Tryz.zeroValue20
 t37:=Tryz.underlying101
 a37:=Tryz.isAgg101
 z37:=Tryz.sizeOf101
 v37:=Tryz.zeroValue101
 t70:=Tryz.underlying100
 a70:=Tryz.isAgg100
 z70:=Tryz.sizeOf100
 v70:=Tryz.zeroValue100
 t72:=Tryz.underlying103
 a72:=Tryz.isAgg103
 z72:=Tryz.sizeOf103
 v72:=Tryz.zeroValue103
 t75:=Tryz.underlying105
 a75:=Tryz.isAgg105
 z75:=Tryz.sizeOf105
 v75:=Tryz.zeroValue105
 t164:=Tryz.underlying206
 a164:=Tryz.isAgg206
 z164:=Tryz.sizeOf206
 v164:=Tryz.zeroValue206 }
theorem Tryz.Builder_Extra_166:Builder.Extra Tryz.prog Tryz.lays166_ren:={
 sizeBuilder:=by kernel_rfl
 liesBuilder:=by kernel_rfl
 t5:=Tryz.underlying5
 a5:=Tryz.isAgg5
 z5:=Tryz.sizeOf5
 v5:=Tryz.zeroValue5
 infoByte:=by kernel_rfl
 cellsByte:=by kernel_rfl
 sizeByte:=by kernel_rfl
 neB5:=by decide }
open Go.RowKit Go.Sort Go.Lib in
theorem Tryz.Builder_WriteString_k (B b : Nat) (bs : List Value) (s : ByteArray) (w : World) (h : Lib.IsBuilderF 103 5 B b bs w) (hlen : bs.length + s.size ≤ 140737488355328) (hBw : B ≤ w.heap.size) :
    Calls Tryz.prog 49 #[.pointer (some ⟨b,0,none⟩),.string s] w fun e w'=>e=.returned (.tuple #[.int .i64 s.size,.nilIface])∧(Lib.BuilderAtF 103 5 B b (.pointer (some ⟨b,0,none⟩)) (bs++Lib.strCells s) w'∧Below B w w'∧Lib.OthersKept 5 (some b) w w'):=
 Any.Builder_WriteString_k Tryz.lays166 Tryz.Builder_Extra_166 B b bs s w h hlen hBw
end Go.Proofs.YtlfdfkbmollaaaaGreatDoor

namespace Go.Proofs.YtlfdfkbmollaaaaGreatDoor
open Go.ChangeShapes Go.WideShapes Go.RowKit Go.Deep
structure M3D where
 s:SlD
 m:Nat→MM
instance:Inhabited MM:=⟨⟨⟨0,fun _=>0,fun _ _=>0⟩,none,0,0,0,fun _=>none,fun _=>0,fun _=>0,fun _=>0⟩⟩
instance:Inhabited M3D:=⟨⟨default,fun _=>default⟩⟩
structure MmOk (M:MM) (w:World):Prop where
 at':M.At w
 ok:∀ k i,k<M.n→i<M.rn k→okI (M.val k i)
 cap:M.n≤M.cap
 caps:∀ k,k<M.n→M.rn k≤M.rc k
structure M3D.At (d:M3D) (w:World):Prop where
 s:d.s.At w
 c:∀ i,i<d.s.n→w.cell? ⟨d.s.b,d.s.o+i,none⟩=some (d.m i).v∧MmOk (d.m i) w
structure SlcD where
 em:Bool
 f:IntD
 l:IntD
 j:M3D
instance:Inhabited SlcD:=⟨⟨false,default,default,default⟩⟩
structure SlcD.At (d:SlcD) (w:World):Prop where
 f:d.f.At w
 l:d.l.At w
 j:d.j.At w
abbrev SlcD.val (d:SlcD):Value:=.agg #[.bool d.em,d.f.s.v,d.l.s.v,d.j.s.v]
section
variable {H:Type} {enc:TypeId × Value→H} {w:World} {base:Nat} {held:Bool} {fuel:Nat} {cs:List Value} {x:DataW H × List MemPlace}
end
section
variable {H:Type} {enc:TypeId × Value→H} {W:World}
end
theorem MmOk.ext {M:MM} {w w':World} (h:MmOk M w) (x:Ext w w'):MmOk M w':=⟨h.at'.ext x,h.ok,h.cap,h.caps⟩
theorem SlD.At.ext {s:SlD} {w w':World} (h:s.At w) (x:Ext w w'):s.At w':=⟨h.hn,h.hc,h.ha,fun h0=>Nat.lt_of_lt_of_le (h.hb h0) x.le⟩
theorem IntD.At.ext3 {d:IntD} {w w':World} (h:d.At w) (x:Ext w w'):d.At w':=⟨h.s.ext x,fun i hi=>⟨x.cell (h.c i hi).1,(h.c i hi).2⟩⟩
theorem M3D.At.ext {d:M3D} {w w':World} (h:d.At w) (x:Ext w w'):d.At w':=⟨h.s.ext x,fun i hi=>⟨x.cell (h.c i hi).1,(h.c i hi).2.ext x⟩⟩
theorem SlcD.At.ext {d:SlcD} {w w':World} (h:d.At w) (x:Ext w w'):d.At w':=⟨h.f.ext3 x,h.l.ext3 x,h.j.ext x⟩
end Go.Proofs.YtlfdfkbmollaaaaGreatDoor

namespace Go.Proofs.YtlfdfkbmollaaaaGreatDoor
open Go.RowKit Go.Shelf
theorem MM.At.num {M:MM} {w:World} (h:M.At w) {k:Nat} (hk:k<M.n):NumAt w (M.rn k) (M.ra k) (M.rb k) (M.ro k) (M.val k):=
 ⟨h.hr k hk,h.ra k hk,fun h0=>h.rb k hk h0 w (Ext.refl w),fun i hi=>h.r0 w (Ext.refl w) k i hk hi⟩
theorem IntD.At.num {d:IntD} {w:World} (h:d.At w):NumAt w d.s.n d.s.a d.s.b d.s.o d.z:=⟨h.s.hn,h.s.ha,h.s.hb,fun k hk=>(h.c k hk).1⟩
def LeqL (n m:Nat) (u v:Nat→Int):Prop:=n=m∧∀ i,i<n→u i≤v i
set_option maxHeartbeats 1000000 in
theorem cleq_any (w : World) (a1 a2 : Option Addr) (g1 o1 g2 o2 n m c1 c2 : Nat) (u v : Nat → Int) (h1 : NumAt w n a1 g1 o1 u) (h2 : NumAt w m a2 g2 o2 v) :
    Calls Tryz.prog 67 #[.slice a1 n c1,.slice a2 m c2] w (BoolPost (LeqL n m u v) w):=by
 have hn1:=h1.hn
 have hn2:=h2.hn
 have H1:=Lib.hid h1
 have H2:=Lib.hid h2
 have hww:Ext w w:=Ext.refl _
 clear h1 h2
 go_enter Tryz.func67,Tryz.ntmps67
 by_cases hnm:n=m
 ·subst hnm
  have d0:((n:Int) != (n:Int))=false:=by simp
  go_wp2_with fail
  go_loopg [13] n (fun gg v13 wr=>∃ k:Nat,k≤n∧gg=n - k∧v13=.int .i64 k∧Ext w wr∧∀ i,i<k→u i≤v i)
  case atStart=>exact ⟨0,by omega,rfl,rfl,hww,fun i h=>by omega⟩
  case round=>
   obtain ⟨k,hk,rfl,rfl,hxr,hall⟩:=hrel
   have HA:=Lib.hid hall
   clear hall
   by_cases hlt:k<n
   ·have hlt':(k:Int)<(n:Int):=by omega
    obtain rfl:=H1.out.pa (by omega)
    obtain rfl:=H2.out.pa (by omega)
    have pb1:∀ w',Ext w w'→g1<w'.heap.size:=fun w' x=>Nat.lt_of_lt_of_le (H1.out.pb (by omega)) x.le
    have pb2:∀ w',Ext w w'→g2<w'.heap.size:=fun w' x=>Nat.lt_of_lt_of_le (H2.out.pb (by omega)) x.le
    obtain ⟨x,hx⟩:∃ x,x=u k:=⟨_,rfl⟩
    obtain ⟨y,hy⟩:∃ y,y=v k:=⟨_,rfl⟩
    have p1:∀ w',Ext w w'→w'.cell? ⟨g1,o1+k,none⟩=some (.int .i64 x):=fun w' h=>by rw [hx];exact h.cell (H1.out.c k hlt)
    have q1:∀ w',Ext w w'→w'.cell? ⟨g2,o2+k,none⟩=some (.int .i64 y):=fun w' h=>by rw [hy];exact h.cell (H2.out.c k hlt)
    have HX:=Lib.hid (And.intro hx hy)
    clear hx hy
    by_cases e:y<x
    ·have d1:decide (y<x)=true:=decide_eq_true e
     have HE:=Lib.hid e
     clear e
     go_upto_region 6 with fail
     go_quiet (fail)
     have hq:=hxr.drewN nq
     go_wp2_with fail
     go_ret
     exact ⟨false,rfl,⟨fun h=>(by cases h),fun h=>absurd (h.2 k hlt) (by rw [←HX.out.1,←HX.out.2];have:=HE.out;omega)⟩,hq⟩
    ·have d1:decide (y<x)=false:=decide_eq_false e
     have HE:=Lib.hid (show x≤y from by omega)
     clear e
     go_upto_region 6 with fail
     go_quiet (fail)
     have hq:=hxr.drewN nq
     go_wp2_with fail
     go_roundg (n - (k+1))
     case rel=>exact ⟨k+1,by omega,rfl,by go_num,hq,fun i hi=>by
      by_cases e:i=k
      ·subst e;rw [←HX.out.1,←HX.out.2];exact HE.out
      ·exact HA.out i (by omega)⟩
     case measure=>omega
   ·obtain rfl:k=n:=by omega
    go_wp2_with fail
    go_ret
    exact ⟨true,rfl,⟨fun _=>⟨by first | rfl | trivial,HA.out⟩,fun _=>rfl⟩,hxr⟩
 ·have d0:((n:Int) != (m:Int))=true:=by simp;omega
  go_wp2_with fail
  go_ret
  exact ⟨false,rfl,⟨fun h=>(by cases h),fun h=>absurd h.1 hnm⟩,hww⟩
set_option maxHeartbeats 1000000 in
theorem rleq_any (w : World) (a1 a2 : Option Addr) (g1 o1 g2 o2 n m c1 c2 : Nat) (u v : Nat → Int) (h1 : NumAt w n a1 g1 o1 u) (h2 : NumAt w m a2 g2 o2 v) :
    Calls Tryz.prog 43 #[.slice a1 n c1,.slice a2 m c2] w (BoolPost (LeqL n m u v) w):=by
 have hn1:=h1.hn
 have hn2:=h2.hn
 have H1:=Lib.hid h1
 have H2:=Lib.hid h2
 have hww:Ext w w:=Ext.refl _
 clear h1 h2
 go_enter Tryz.func43,Tryz.ntmps43
 by_cases hnm:n=m
 ·subst hnm
  have d0:((n:Int) != (n:Int))=false:=by simp
  go_wp2_with fail
  go_loopg [5] n (fun gg v13 wr=>∃ k:Nat,k≤n∧gg=n - k∧v13=.int .i64 k∧Ext w wr∧∀ i,i<k→u i≤v i)
  case atStart=>exact ⟨0,by omega,rfl,rfl,hww,fun i h=>by omega⟩
  case round=>
   obtain ⟨k,hk,rfl,rfl,hxr,hall⟩:=hrel
   have HA:=Lib.hid hall
   clear hall
   by_cases hlt:k<n
   ·have hlt':(k:Int)<(n:Int):=by omega
    obtain rfl:=H1.out.pa (by omega)
    obtain rfl:=H2.out.pa (by omega)
    have pb1:∀ w',Ext w w'→g1<w'.heap.size:=fun w' x=>Nat.lt_of_lt_of_le (H1.out.pb (by omega)) x.le
    have pb2:∀ w',Ext w w'→g2<w'.heap.size:=fun w' x=>Nat.lt_of_lt_of_le (H2.out.pb (by omega)) x.le
    obtain ⟨x,hx⟩:∃ x,x=u k:=⟨_,rfl⟩
    obtain ⟨y,hy⟩:∃ y,y=v k:=⟨_,rfl⟩
    have p1:∀ w',Ext w w'→w'.cell? ⟨g1,o1+k,none⟩=some (.int .i64 x):=fun w' h=>by rw [hx];exact h.cell (H1.out.c k hlt)
    have q1:∀ w',Ext w w'→w'.cell? ⟨g2,o2+k,none⟩=some (.int .i64 y):=fun w' h=>by rw [hy];exact h.cell (H2.out.c k hlt)
    have HX:=Lib.hid (And.intro hx hy)
    clear hx hy
    by_cases e:y<x
    ·have d1:decide (y<x)=true:=decide_eq_true e
     have HE:=Lib.hid e
     clear e
     go_upto_region 6 with fail
     go_quiet (fail)
     have hq:=hxr.drewN nq
     go_wp2_with fail
     go_ret
     exact ⟨false,rfl,⟨fun h=>(by cases h),fun h=>absurd (h.2 k hlt) (by rw [←HX.out.1,←HX.out.2];have:=HE.out;omega)⟩,hq⟩
    ·have d1:decide (y<x)=false:=decide_eq_false e
     have HE:=Lib.hid (show x≤y from by omega)
     clear e
     go_upto_region 6 with fail
     go_quiet (fail)
     have hq:=hxr.drewN nq
     go_wp2_with fail
     go_roundg (n - (k+1))
     case rel=>exact ⟨k+1,by omega,rfl,by go_num,hq,fun i hi=>by
      by_cases e:i=k
      ·subst e;rw [←HX.out.1,←HX.out.2];exact HE.out
      ·exact HA.out i (by omega)⟩
     case measure=>omega
   ·obtain rfl:k=n:=by omega
    go_wp2_with fail
    go_ret
    exact ⟨true,rfl,⟨fun _=>⟨by first | rfl | trivial,HA.out⟩,fun _=>rfl⟩,hxr⟩
 ·have d0:((n:Int) != (m:Int))=true:=by simp;omega
  go_wp2_with fail
  go_ret
  exact ⟨false,rfl,⟨fun h=>(by cases h),fun h=>absurd h.1 hnm⟩,hww⟩
set_option maxHeartbeats 1000000 in
theorem sel_any (w : World) (S : SlcD) (hS : S.At w) (p i : Nat) (x : Int) (hp : p < S.j.s.n) (hi : i < (S.j.m p).n) (hx : x = (i : Int) + 1) :
    Calls Tryz.prog 65 #[S.val,.agg #[.int .i64 p,.int .i64 x]] w fun e w'=>e=.returned (.slice ((S.j.m p).ra i) ((S.j.m p).rn i) ((S.j.m p).rc i))∧Ext w w':=by
 have hn3:=hS.j.s.hn
 have hM:=(hS.j.c p hp).2.at'
 have hnm:=hM.hn
 have hp':(p:Int)<(S.j.s.n:Int):=by omega
 have hi':(i:Int)<((S.j.m p).n:Int):=by omega
 have hb1:∀ w',Ext w w'→S.j.s.b<w'.heap.size:=fun w' x=>Nat.lt_of_lt_of_le (hS.j.s.hb (by omega)) x.le
 have hb2:=hM.pb (by omega)
 have k1:∀ w',Ext w w'→w'.cell? ⟨S.j.s.b,S.j.s.o+p,none⟩=some (.slice (some ⟨(S.j.m p).b,(S.j.m p).off,none⟩) (S.j.m p).n (S.j.m p).cap):=fun w' x=>by
  rw [←hM.pa (by omega)];exact x.cell (hS.j.c p hp).1
 have k2:∀ w',Ext w w'→w'.cell? ⟨(S.j.m p).b,(S.j.m p).off+i,none⟩=some (.slice ((S.j.m p).ra i) ((S.j.m p).rn i) ((S.j.m p).rc i)):=fun w' x=>hM.p0 w' x i hi
 have hxi:IntKind.i64.wrap (x - 1)=(i:Int):=by rw [IntWalk.i64_in _ (by omega)];omega
 have hv:S.val=.agg #[.bool S.em,.slice S.f.s.a S.f.s.n S.f.s.c,.slice S.l.s.a S.l.s.n S.l.s.c,.slice (some ⟨S.j.s.b,S.j.s.o,none⟩) S.j.s.n S.j.s.c]:=by
  show Value.agg #[_,_,_,.slice S.j.s.a _ _]=_
  rw [hS.j.s.ha (by omega)]
 rw [hv]
 generalize (S.j.m p).n=nm at *
 generalize (S.j.m p).b=bm at *
 generalize (S.j.m p).off=om at *
 generalize (S.j.m p).cap=cm at *
 generalize (S.j.m p).ra i=ea at *
 generalize (S.j.m p).rn i=en at *
 generalize (S.j.m p).rc i=ec at *
 clear hv hM hS hx
 go_enter Tryz.func65,Tryz.ntmps65
 go_upto_region 1 with fail
 refine boxed2 (w:=w) (G:=fun x=>Code.wp _ _ _ _ x) ?_
 intro w1 hx1 hs1 ⟨l0,c0,_,_⟩ ⟨l1,c1,_,_⟩
 have hx11:Ext w1 w1:=Ext.refl _
 clear hs1
 go_quiet (fail)
 have hq:=hx1.drewN nq
 go_wp2_with fail
 go_ret
 exact ⟨rfl,hq⟩
set_option maxHeartbeats 1000000 in
theorem tel_any (w : World) (S : SlcD) (hS : S.At w) (p i : Nat) (x : Int) (hp : p < S.j.s.n) (hi : i < (S.j.m p).n) (hx : x = (i : Int) + 1) :
    Calls Tryz.prog 53 #[S.val,.agg #[.int .i64 p,.int .i64 x]] w fun e w'=>e=.returned (.slice ((S.j.m p).ra i) ((S.j.m p).rn i) ((S.j.m p).rc i))∧Ext w w':=by
 have hn3:=hS.j.s.hn
 have hM:=(hS.j.c p hp).2.at'
 have hnm:=hM.hn
 have hp':(p:Int)<(S.j.s.n:Int):=by omega
 have hi':(i:Int)<((S.j.m p).n:Int):=by omega
 have hb1:∀ w',Ext w w'→S.j.s.b<w'.heap.size:=fun w' x=>Nat.lt_of_lt_of_le (hS.j.s.hb (by omega)) x.le
 have hb2:=hM.pb (by omega)
 have k1:∀ w',Ext w w'→w'.cell? ⟨S.j.s.b,S.j.s.o+p,none⟩=some (.slice (some ⟨(S.j.m p).b,(S.j.m p).off,none⟩) (S.j.m p).n (S.j.m p).cap):=fun w' x=>by
  rw [←hM.pa (by omega)];exact x.cell (hS.j.c p hp).1
 have k2:∀ w',Ext w w'→w'.cell? ⟨(S.j.m p).b,(S.j.m p).off+i,none⟩=some (.slice ((S.j.m p).ra i) ((S.j.m p).rn i) ((S.j.m p).rc i)):=fun w' x=>hM.p0 w' x i hi
 have hxi:IntKind.i64.wrap (x - 1)=(i:Int):=by rw [IntWalk.i64_in _ (by omega)];omega
 have hv:S.val=.agg #[.bool S.em,.slice S.f.s.a S.f.s.n S.f.s.c,.slice S.l.s.a S.l.s.n S.l.s.c,.slice (some ⟨S.j.s.b,S.j.s.o,none⟩) S.j.s.n S.j.s.c]:=by
  show Value.agg #[_,_,_,.slice S.j.s.a _ _]=_
  rw [hS.j.s.ha (by omega)]
 rw [hv]
 generalize (S.j.m p).n=nm at *
 generalize (S.j.m p).b=bm at *
 generalize (S.j.m p).off=om at *
 generalize (S.j.m p).cap=cm at *
 generalize (S.j.m p).ra i=ea at *
 generalize (S.j.m p).rn i=en at *
 generalize (S.j.m p).rc i=ec at *
 clear hv hM hS hx
 go_enter Tryz.func53,Tryz.ntmps53
 go_upto_region 1 with fail
 refine boxed2 (w:=w) (G:=fun x=>Code.wp _ _ _ _ x) ?_
 intro w1 hx1 hs1 ⟨l0,c0,_,_⟩ ⟨l1,c1,_,_⟩
 have hx11:Ext w1 w1:=Ext.refl _
 clear hs1
 go_quiet (fail)
 have hq:=hx1.drewN nq
 go_wp2_with fail
 go_ret
 exact ⟨rfl,hq⟩
set_option maxHeartbeats 1000000 in
theorem sin_any (w : World) (a : Option Addr) (g o n cap : Nat) (v : Nat → Int) (h1 : NumAt w n a g o v) (p : Nat) (x : Int) (hp : p < n) :
    Calls Tryz.prog 107 #[.agg #[.int .i64 p,.int .i64 x],.slice a n cap] w fun e w'=>e=.returned (.bool (decide (x≤v p)))∧Ext w w':=by
 have hn:=h1.hn
 have hp':(p:Int)<(n:Int):=by omega
 obtain rfl:=h1.pa (by omega)
 have hb:∀ w',Ext w w'→g<w'.heap.size:=fun w' x=>Nat.lt_of_lt_of_le (h1.pb (by omega)) x.le
 have hc:∀ w',Ext w w'→w'.cell? ⟨g,o+p,none⟩=some (.int .i64 (v p)):=fun w' x=>x.cell (h1.c p hp)
 generalize v p=y at *
 clear h1
 go_enter Tryz.func107,Tryz.ntmps107
 go_upto_region 1 with fail
 refine boxed1 (w:=w) (G:=fun x=>Code.wp _ _ _ _ x) ?_
 intro w1 hx1 hs1 ⟨l0,c0,_,_⟩
 have hx11:Ext w1 w1:=Ext.refl _
 clear hs1
 go_quiet (fail)
 have hq:=hx1.drewN nq
 go_wp2_with fail
 go_ret
 exact ⟨rfl,hq⟩
set_option maxHeartbeats 1000000 in
theorem each34_any (w : World) (a : Option Addr) (g o n cap : Nat) (v : Nat → Int) (h1 : NumAt w n a g o v) (hv : ∀ p, p < n → v p ≤ 1000000) (f : Nat) (lb : Array Value) (P : Nat → Nat → Prop) (eg : Enters Tryz.prog f)
    (hf:∀ p i:Nat,p<n→(i:Int)<v p→∀ W,Ext w W→Calls Tryz.prog f (#[.agg #[.int .i64 (p:Int),.int .i64 ((i:Int)+1)]]++lb) W (BoolPost (P p i) W)) :
    Calls Tryz.prog 60 #[.slice a n cap,.func (.func f) #[] lb] w (BoolPost (∀ p i:Nat,p<n→(i:Int)<v p→P p i) w):=by
 have hn:=h1.hn
 have H1:=Lib.hid h1
 have HF:=Lib.hid hf
 have HV:=Lib.hid hv
 have hww:=Ext.refl w
 clear h1 hf hv
 unfold Enters at eg
 go_enter Tryz.func60,Tryz.ntmps60
 go_wp2_with fail
 go_loopg [10] n (fun gg v10 wr=>∃ k:Nat,k≤n∧gg=n - k∧v10=.int .i64 k∧Ext w wr∧∀ p i:Nat,p<k→(i:Int)<v p→P p i)
 case atStart=>exact ⟨0,by omega,rfl,rfl,hww,fun p i h=>by omega⟩
 case round=>
  obtain ⟨k,hk,rfl,rfl,hxr,hall⟩:=hrel
  have HA:=Lib.hid hall
  clear hall hww
  by_cases hlt:k<n
  ·have hlt':(k:Int)<(n:Int):=by omega
   obtain rfl:=H1.out.pa (by omega)
   have pb1:∀ w',Ext w w'→g<w'.heap.size:=fun w' x=>Nat.lt_of_lt_of_le (H1.out.pb (by omega)) x.le
   obtain ⟨x,hx⟩:∃ x,x=v k:=⟨_,rfl⟩
   have p1:∀ w',Ext w w'→w'.cell? ⟨g,o+k,none⟩=some (.int .i64 x):=fun w' h=>by rw [hx];exact h.cell (H1.out.c k hlt)
   have hxb:x≤1000000:=by rw [hx];exact HV.out k hlt
   have HX:=Lib.hid hx
   clear hx
   go_wp2_with fail
   go_loopg [16] x.toNat (fun gg v16 ws=>∃ i:Nat,i≤x.toNat∧gg=x.toNat - i∧v16=.int .i64 i∧Ext w ws∧∀ j:Nat,j<i→P k j)
   case atStart=>exact ⟨0,by omega,rfl,rfl,hxr,fun j h=>by omega⟩
   case round=>
    clear hxr
    obtain ⟨i,hi,rfl,rfl,hxs,hal2⟩:=hrel
    have HB:=Lib.hid hal2
    clear hal2
    by_cases hli:(i:Int)<x
    ·have hc:=HF.out k i hlt (by rw [←HX.out];exact hli) _ hxs
     have hi1:IntKind.i64.wrap ((i:Int)+1)=(i:Int)+1:=IntWalk.i64_in _ (by omega)
     go_wp2_with fail
     go_at_fn f
     refine hc.mono ?_
     rintro e w2 ⟨b,rfl,hb,hx2⟩
     have HBB:=Lib.hid hb
     have hxw2:=hxs.trans hx2
     clear hb hc hxs
     cases b with
     | false =>
      go_wp2_with fail
      go_ret
      exact ⟨false,rfl,⟨fun h=>(by cases h),fun h=>absurd (HBB.out.2 (h k i hlt (by rw [←HX.out];exact hli))) (by decide)⟩,hxw2⟩
     | true =>
      go_wp2_with fail
      go_roundg (x.toNat - (i+1))
      case rel=>exact ⟨i+1,by omega,rfl,by go_num,hxw2,fun j hj=>by
       by_cases e:j=i
       ·subst e;exact HBB.out.1 (by first | rfl | trivial)
       ·exact HB.out j (by omega)⟩
      case measure=>omega
    ·go_wp2_with fail
     go_roundg (n - (k+1))
     case rel=>exact ⟨k+1,by omega,rfl,by go_num,hxs,fun p j hp hj=>by
      by_cases e:p=k
      ·subst e;rw [←HX.out] at hj;exact HB.out j (by omega)
      ·exact HA.out p j (by omega) hj⟩
     case measure=>omega
  ·obtain rfl:k=n:=by omega
   go_wp2_with fail
   go_ret
   exact ⟨true,rfl,⟨fun _=>HA.out,fun _=>rfl⟩,hxr⟩
def SlcD.Right (S:SlcD) (T:Tr) (p i:Nat):Prop:=
 ((i:Int)+1≤S.l.z p→((i:Int)+1≤S.f.z p→EqL ((S.j.m p).rn i) S.f.s.n ((S.j.m p).val i) S.f.z)∧
  (¬(i:Int)+1≤S.f.z p→T.IsCut ((S.j.m p).rn i) ((S.j.m p).val i)∧(i:Int)+1≤(S.j.m p).val i p∧LeqL S.f.s.n ((S.j.m p).rn i) S.f.z ((S.j.m p).val i)∧LeqL ((S.j.m p).rn i) S.l.s.n ((S.j.m p).val i) S.l.z))∧
 (¬(i:Int)+1≤S.l.z p→(S.j.m p).rn i=0)
def SlcD.Heads (S:SlcD) (T:Tr):Prop:=T.IsCut S.f.s.n S.f.z∧T.IsCut S.l.s.n S.l.z∧LeqL S.f.s.n S.l.s.n S.f.z S.l.z∧S.j.s.n=T.n
def SlcD.Shaped (S:SlcD) (T:Tr):Prop:=S.Heads T∧∀ p,p<T.n→(S.j.m p).n=T.en p
theorem MmOk.num {M:MM} {w:World} (h:MmOk M w) {k:Nat} (hk:k<M.n):NumAt w (M.rn k) (M.ra k) (M.rb k) (M.ro k) (M.val k):=h.at'.num hk
set_option maxHeartbeats 2000000 in
theorem right_any (w : World) (T : TM) (hT : T.At w) (S : SlcD) (hS : S.At w) (p i : Nat) (hp : p < T.n) (hi : i < T.en p) (hSh : S.Shaped T.toTr) :
    Calls Tryz.prog 63 #[T.val,S.val,.agg #[.int .i64 (p:Int),.int .i64 ((i:Int)+1)]] w (BoolPost (S.Right T.toTr p i) w):=by
 have hj:p<S.j.s.n:=by rw [hSh.1.2.2.2];exact hp
 have hm:i<(S.j.m p).n:=by rw [hSh.2 p hp];exact hi
 have HNU:=Lib.hid ((hS.j.c p hj).2.num hm)
 have hfn:S.f.s.n=T.n:=hSh.1.1.1.2
 have hln:S.l.s.n=T.n:=hSh.1.2.1.1.2
 have hrn:=HNU.out.hn
 have hfs:=hS.f.s.hn
 have hls:=hS.l.s.hn
 have HE:=Lib.hid (fun W (x:Ext w W)=>sel_any W S (hS.ext x) p i _ hj hm rfl)
 have HIL:=Lib.hid (fun W (x:Ext w W)=>sin_any W _ _ _ _ S.l.s.c _ (hS.l.num.ext x) p ((i:Int)+1) (by omega))
 have HIF:=Lib.hid (fun W (x:Ext w W)=>sin_any W _ _ _ _ S.f.s.c _ (hS.f.num.ext x) p ((i:Int)+1) (by omega))
 have HIC:=Lib.hid (fun W (x:Ext w W) (h:p<(S.j.m p).rn i)=>sin_any W _ _ _ _ ((S.j.m p).rc i) _ (HNU.out.ext x) p ((i:Int)+1) h)
 have HEQ:=Lib.hid (fun W (x:Ext w W)=>eqi_any W _ _ _ _ _ _ _ _ ((S.j.m p).rc i) S.f.s.c _ _ (HNU.out.ext x) (hS.f.num.ext x))
 have HCC:=Lib.hid (fun W (x:Ext w W)=>ccon_any W T (hT.ext x) _ _ ((S.j.m p).rc i) _ _ _ (HNU.out.ext x))
 have HL1:=Lib.hid (fun W (x:Ext w W)=>cleq_any W _ _ _ _ _ _ _ _ S.f.s.c ((S.j.m p).rc i) _ _ (hS.f.num.ext x) (HNU.out.ext x))
 have HL2:=Lib.hid (fun W (x:Ext w W)=>cleq_any W _ _ _ _ _ _ _ _ ((S.j.m p).rc i) S.l.s.c _ _ (HNU.out.ext x) (hS.l.num.ext x))
 have HP:=Lib.hid hp
 clear hSh hj hm hp hi hfn hln
 simp only [TM.val] at HCC ⊢
 clear hT hS
 go_enter Tryz.func63,Tryz.ntmps63
 go_upto_region 1 with fail
 refine boxed3 (w:=w) (G:=fun x=>Code.wp _ _ _ _ x) ?_
 intro w1 hx1 hs1 ⟨l0,c0,_,_⟩ ⟨l1,c1,_,_⟩ ⟨l2,c2,_,_⟩
 have hx11:Ext w1 w1:=Ext.refl _
 clear hs1
 go_wp2_with fail
 go_at_call 65
 refine (HE.out w1 hx1).mono ?_
 rintro e w2 ⟨rfl,hx2⟩
 have hxw2:=hx1.trans hx2
 have hx12:=hx2
 go_wp2_with fail
 go_at_call 107
 refine (HIL.out w2 hxw2).mono ?_
 rintro e w3 ⟨rfl,hx3⟩
 have hxw3:=hxw2.trans hx3
 have hx13:=hx12.trans hx3
 clear hx2 hx3
 cases hL:decide ((i:Int)+1≤S.l.z p) with
 | false =>
  have HL:=Lib.hid (of_decide_eq_false hL)
  clear hL
  obtain ⟨b,hb⟩:∃ b:Bool,b=decide ((S.j.m p).rn i=0):=⟨_,rfl⟩
  have hb1:(((S.j.m p).rn i:Int) == 0)=b:=by rw [hb];cases h:decide ((S.j.m p).rn i=0) with
   | true => have:=of_decide_eq_true h;simp [this]
   | false => have:=of_decide_eq_false h;simp [this]
  have hb2:((S.j.m p).rn i == 0)=b:=by rw [hb];rfl
  have HB:=Lib.hid hb
  clear hb
  go_wp2_with fail
  go_ret
  refine ⟨b,by first | rfl | simp [hb1] | simp [hb2],?_,hxw3⟩
  rw [HB.out,decide_eq_true_iff]
  exact ⟨fun h=>⟨fun h2=>absurd h2 (by have:=HL.out;omega),fun _=>h⟩,fun h=>h.2 (by have:=HL.out;omega)⟩
 | true =>
  have HL:=Lib.hid (of_decide_eq_true hL)
  clear hL
  go_wp2_with fail
  go_at_call 107
  refine (HIF.out w3 hxw3).mono ?_
  rintro e w4 ⟨rfl,hx4⟩
  have hxw4:=hxw3.trans hx4
  have hx14:=hx13.trans hx4
  clear hx4
  cases hF:decide ((i:Int)+1≤S.f.z p) with
  | true =>
   have HF:=Lib.hid (of_decide_eq_true hF)
   clear hF
   go_wp2_with fail
   go_at_call 30
   refine (HEQ.out w4 hxw4).mono ?_
   rintro e w5 ⟨b,rfl,hb,hx5⟩
   have HB:=Lib.hid hb
   have hxw5:=hxw4.trans hx5
   clear hb hx5
   go_wp2_with fail
   go_ret
   exact ⟨b,rfl,HB.out.trans ⟨fun h=>⟨fun _=>⟨fun _=>h,fun h2=>absurd HF.out h2⟩,fun h2=>absurd HL.out h2⟩,fun h=>(h.1 HL.out).1 HF.out⟩,hxw5⟩
  | false =>
   have HF:=Lib.hid (of_decide_eq_false hF)
   have HRI:=Lib.hid (show S.Right T.toTr p i↔T.toTr.IsCut ((S.j.m p).rn i) ((S.j.m p).val i)∧(i:Int)+1≤(S.j.m p).val i p∧LeqL S.f.s.n ((S.j.m p).rn i) S.f.z ((S.j.m p).val i)∧LeqL ((S.j.m p).rn i) S.l.s.n ((S.j.m p).val i) S.l.z from
    ⟨fun h=>(h.1 HL.out).2 HF.out,fun h=>⟨fun _=>⟨fun h2=>absurd h2 HF.out,fun _=>h⟩,fun h2=>absurd HL.out h2⟩⟩)
   clear hF
   go_wp2_with fail
   go_at_call 87
   refine (HCC.out w4 hxw4).mono ?_
   rintro e w5 ⟨b,rfl,hb,hx5⟩
   have HB:=Lib.hid hb
   have hxw5:=hxw4.trans hx5
   have hx15:=hx14.trans hx5
   clear hb hx5
   cases b with
   | false =>
    go_wp2_with fail
    go_ret
    exact ⟨false,by first | rfl | simp,⟨fun h=>(by cases h),fun h=>absurd (HB.out.2 (HRI.out.1 h).1) (by decide)⟩,hxw5⟩
   | true =>
    have HC:=Lib.hid (HB.out.1 rfl)
    clear HB
    go_wp2_with fail
    go_at_call 107
    refine (HIC.out w5 hxw5 (by rw [HC.out.1.2];exact HP.out)).mono ?_
    rintro e w6 ⟨rfl,hx6⟩
    have hxw6:=hxw5.trans hx6
    have hx16:=hx15.trans hx6
    clear hx6
    cases hD:decide ((i:Int)+1≤(S.j.m p).val i p) with
    | false =>
     have HD:=Lib.hid (of_decide_eq_false hD)
     clear hD
     go_wp2_with fail
     go_ret
     exact ⟨false,by first | rfl | simp,⟨fun h=>(by cases h),fun h=>absurd (HRI.out.1 h).2.1 (by have:=HD.out;omega)⟩,hxw6⟩
    | true =>
     have HD:=Lib.hid (of_decide_eq_true hD)
     clear hD
     go_wp2_with fail
     go_at_call 67
     refine (HL1.out w6 hxw6).mono ?_
     rintro e w7 ⟨b,rfl,hb,hx7⟩
     have HB:=Lib.hid hb
     have hxw7:=hxw6.trans hx7
     have hx17:=hx16.trans hx7
     clear hb hx7
     cases b with
     | false =>
      go_wp2_with fail
      go_ret
      exact ⟨false,by first | rfl | simp,⟨fun h=>(by cases h),fun h=>absurd (HB.out.2 (HRI.out.1 h).2.2.1) (by decide)⟩,hxw7⟩
     | true =>
      have HM:=Lib.hid (HB.out.1 rfl)
      clear HB
      go_wp2_with fail
      go_at_call 67
      refine (HL2.out w7 hxw7).mono ?_
      rintro e w8 ⟨b,rfl,hb,hx8⟩
      have HB:=Lib.hid hb
      have hxw8:=hxw7.trans hx8
      clear hb hx8
      go_wp2_with fail
      go_ret
      exact ⟨b,by first | rfl | simp,HB.out.trans ⟨fun h=>HRI.out.2 ⟨HC.out,HD.out,HM.out,h⟩,fun h=>(HRI.out.1 h).2.2.2⟩,hxw8⟩
set_option maxHeartbeats 2000000 in
theorem shaped_any (w:World) (T:TM) (hT:T.At w) (S:SlcD) (hS:S.At w):Calls Tryz.prog 59 #[T.val,S.val] w (BoolPost (S.Shaped T.toTr) w):=by
 have hfs:=hS.f.s.hn
 have hls:=hS.l.s.hn
 have hjn:=hS.j.s.hn
 have htn:=hT.P.hn
 have HC1:=Lib.hid (fun W (x:Ext w W)=>ccon_any W T (hT.ext x) _ _ S.f.s.c _ _ _ (hS.f.num.ext x))
 have HC2:=Lib.hid (fun W (x:Ext w W)=>ccon_any W T (hT.ext x) _ _ S.l.s.c _ _ _ (hS.l.num.ext x))
 have HLE:=Lib.hid (fun W (x:Ext w W)=>cleq_any W _ _ _ _ _ _ _ _ S.f.s.c S.l.s.c _ _ (hS.f.num.ext x) (hS.l.num.ext x))
 have HT:=Lib.hid hT
 have HS:=Lib.hid hS
 obtain ⟨ta,hta⟩:∃ z,z=T.a:=⟨_,rfl⟩
 obtain ⟨ja,hja⟩:∃ z,z=S.j.s.a:=⟨_,rfl⟩
 have HTA:=Lib.hid hta
 have HJA:=Lib.hid hja
 simp only [TM.val,SlcD.val,SlD.v,←hta,←hja] at HC1 HC2 ⊢
 clear hT hS hta hja
 go_enter Tryz.func59,Tryz.ntmps59
 go_upto_region 1 with fail
 refine boxed2 (w:=w) (G:=fun x=>Code.wp _ _ _ _ x) ?_
 intro w1 hx1 hs1 ⟨l0,c0,_,_⟩ ⟨l1,c1,_,_⟩
 have hx11:Ext w1 w1:=Ext.refl _
 clear hs1
 go_wp2_with fail
 go_at_call 87
 refine (HC1.out w1 hx1).mono ?_
 rintro e w2 ⟨b,rfl,hb,hx2⟩
 have HB:=Lib.hid hb
 have hxw2:=hx1.trans hx2
 have hx12:=hx2
 clear hb hx2
 cases b with
 | false =>
  go_wp2_with fail
  go_ret
  exact ⟨false,by first | rfl | simp,⟨fun h=>(by cases h),fun h=>absurd (HB.out.2 h.1.1) (by decide)⟩,hxw2⟩
 | true =>
  have HA:=Lib.hid (HB.out.1 rfl)
  clear HB
  go_wp2_with fail
  go_at_call 87
  refine (HC2.out w2 hxw2).mono ?_
  rintro e w3 ⟨b,rfl,hb,hx3⟩
  have HB:=Lib.hid hb
  have hxw3:=hxw2.trans hx3
  have hx13:=hx12.trans hx3
  clear hb hx3
  cases b with
  | false =>
   go_wp2_with fail
   go_ret
   exact ⟨false,by first | rfl | simp,⟨fun h=>(by cases h),fun h=>absurd (HB.out.2 h.1.2.1) (by decide)⟩,hxw3⟩
  | true =>
   have HA2:=Lib.hid (HB.out.1 rfl)
   clear HB
   go_wp2_with fail
   go_at_call 67
   refine (HLE.out w3 hxw3).mono ?_
   rintro e w4 ⟨b,rfl,hb,hx4⟩
   have HB:=Lib.hid hb
   have hxw4:=hxw3.trans hx4
   have hx14:=hx13.trans hx4
   clear hb hx4
   cases b with
   | false =>
    go_wp2_with fail
    go_ret
    exact ⟨false,by first | rfl | simp,⟨fun h=>(by cases h),fun h=>absurd (HB.out.2 h.1.2.2.1) (by decide)⟩,hxw4⟩
   | true =>
    have HA3:=Lib.hid (HB.out.1 rfl)
    clear HB
    by_cases hjt:S.j.s.n=T.n
    ·have d0:((S.j.s.n:Int) != (T.n:Int))=false:=by simp;omega
     have HJT:=Lib.hid hjt
     clear hjt
     go_wp2_with fail
     go_loopg [39] S.j.s.n (fun gg v39 wr=>∃ k:Nat,k≤S.j.s.n∧gg=S.j.s.n - k∧v39=.int .i64 k∧Ext w1 wr∧∀ p,p<k→(S.j.m p).n=T.en p)
     case atStart=>exact ⟨0,by omega,rfl,rfl,hx14,fun p h=>by omega⟩
     case round=>
      obtain ⟨k,hk,rfl,rfl,hxr,hall⟩:=hrel
      have HAL:=Lib.hid hall
      have hxwr:=hx1.trans hxr
      clear hall
      by_cases hlt:k<S.j.s.n
      ·have hlt':(k:Int)<(S.j.s.n:Int):=by omega
       have hkt:k<T.n:=by rw [←HJT.out];exact hlt
       have hkt':(k:Int)<(T.n:Int):=by omega
       obtain rfl:ta=some ⟨T.b,T.off,none⟩:=HTA.out.trans (HT.out.P.pa (by omega))
       obtain rfl:ja=some ⟨S.j.s.b,S.j.s.o,none⟩:=HJA.out.trans (HS.out.j.s.ha (by omega))
       have pb:=HT.out.P.pb (by omega)
       have p2:=fun w' (h:Ext w w')=>HT.out.P.p2 w' h k hkt
       have jb:∀ w',Ext w w'→S.j.s.b<w'.heap.size:=fun w' x=>Nat.lt_of_lt_of_le (HS.out.j.s.hb (by omega)) x.le
       have jc:∀ w',Ext w w'→w'.cell? ⟨S.j.s.b,S.j.s.o+k,none⟩=some (.slice (S.j.m k).a (S.j.m k).n (S.j.m k).cap):=fun w' x=>x.cell (HS.out.j.c k hlt).1
       have hmn:=(HS.out.j.c k hlt).2.at'.hn
       have hte:=HT.out.E.he k hkt
       by_cases he:(S.j.m k).n=T.en k
       ·have d1:(((S.j.m k).n:Int) != (T.en k:Int))=false:=by simp;omega
        have HE:=Lib.hid he
        clear he
        go_wp2_with fail
        go_roundg (S.j.s.n - (k+1))
        case rel=>exact ⟨k+1,by omega,rfl,by go_num,hxr,fun p hp=>by
         by_cases e:p=k
         ·subst e;exact HE.out
         ·exact HAL.out p (by omega)⟩
        case measure=>omega
       ·have d1:(((S.j.m k).n:Int) != (T.en k:Int))=true:=by simp;omega
        have HE:=Lib.hid he
        clear he
        go_wp2_with fail
        go_ret
        exact ⟨false,by first | rfl | simp,⟨fun h=>(by cases h),fun h=>absurd (h.2 k hkt) HE.out⟩,hxwr⟩
      ·obtain rfl:k=S.j.s.n:=by omega
       go_wp2_with fail
       go_ret
       exact ⟨true,rfl,⟨fun _=>⟨⟨HA.out,HA2.out,HA3.out,HJT.out⟩,fun p hp=>HAL.out p (by rw [HJT.out];exact hp)⟩,fun _=>rfl⟩,hxwr⟩
    ·have d0:((S.j.s.n:Int) != (T.n:Int))=true:=by simp;omega
     have HJT:=Lib.hid hjt
     clear hjt
     go_wp2_with fail
     go_ret
     exact ⟨false,by first | rfl | simp,⟨fun h=>(by cases h),fun h=>absurd h.1.2.2.2 HJT.out⟩,hxw4⟩
attribute [local go_sem] Oper.semAt_some
theorem one_i64 (x:Int):∀ u∈[Value.int .i64 x],u.oneCell'=true:=by
 intro u hu
 simp only [List.mem_singleton] at hu
 subst hu;rfl
theorem BoolPost.fix {P:Prop} {w w':World} {e:Ending} {b:Bool} (hb:b=true↔P) (h:BoolPost P w e w'):e=.returned (.bool b)∧Ext w w':=by
 obtain ⟨c,rfl,hc,hx⟩:=h
 exact ⟨by rw [Bool.eq_iff_iff.2 (hc.trans hb.symm)],hx⟩
set_option maxHeartbeats 2000000 in
theorem final_any (w : World) (T : TM) (hT : T.At w) (hn : T.n ≤ 1000) :
    Calls Tryz.prog 61 #[T.val] w fun e w'=>Ext w w'∧∃ v,e=.returned v∧Que w' w.heap.size 1 v T.n (intCells ((List.range T.n).map fun i=>((T.en i:Nat):Int))):=by
 obtain ⟨j0,hj0,hy0,hy1,hy2⟩:=info_parts infoInt
 have HT:=Lib.hid hT
 obtain ⟨ta,hta⟩:∃ z,z=T.a:=⟨_,rfl⟩
 have HTA:=Lib.hid hta
 simp only [TM.val,←hta]
 clear hT hta
 go_enter Tryz.func61,Tryz.ntmps61
 go_upto_region 1 with fail
 refine boxed1 (w:=w) (G:=fun x=>Code.wp _ _ _ _ x) ?_
 intro w1 hx1 hs1 ⟨l0,c0,_,_⟩
 have hx11:Ext w1 w1:=Ext.refl _
 clear hs1
 go_wp2_with fail
 go_loopg [3,9] T.n (fun gg v3 v9 wr=>∃ k:Nat,k≤T.n∧gg=T.n - k∧v9=.int .i64 k∧Ext w1 wr∧Que wr w1.heap.size 1 v3 k (intCells ((List.range k).map fun i=>((T.en i:Nat):Int))))
 case atStart=>exact ⟨0,by omega,rfl,rfl,hx11,Que.nil _ _ _⟩
 case round=>
  obtain ⟨k,hk,rfl,rfl,hx1r,hQ⟩:=hrel
  obtain ⟨qa,qc,rfl⟩:=hQ.slice
  have HQ:=Lib.hid hQ
  have hxwr:=hx1.trans hx1r
  clear hQ hx11
  by_cases hlt:k<T.n
  case neg=>
   obtain rfl:k=T.n:=by omega
   go_wp2_with fail
   go_ret
   exact ⟨hxwr,_,rfl,HQ.out.mono hx1.le⟩
  have hlt':(k:Int)<(T.n:Int):=by omega
  obtain rfl:ta=some ⟨T.b,T.off,none⟩:=HTA.out.trans (HT.out.P.pa (by omega))
  have pb:=HT.out.P.pb (by omega)
  have p0:=fun w' (h:Ext w w')=>HT.out.P.p0 w' h k hlt
  have p1:=fun w' (h:Ext w w')=>HT.out.P.p1 w' h k hlt
  have p2:=fun w' (h:Ext w w')=>HT.out.P.p2 w' h k hlt
  have hen:=HT.out.E.he k hlt
  go_upto_region 5 with fail
  refine boxed1 (w:=wr) (G:=fun x=>Code.wp _ _ _ _ x) ?_
  intro w2 hx2 hs2 ⟨l2,c2,_,_⟩
  have hx22:Ext w2 w2:=Ext.refl _
  have hx12:=hx1r.trans hx2
  have HQ2:=Lib.hid (HQ.out.ext hx2)
  have hsz:=hx12.le
  clear hs2 p0 p1 p2 pb
  generalize wr.heap.size=xb at l2 c2 ⊢
  go_upto_region 6 with (at_builtin;refine wpList_append_que _ rfl _ _ 27 27 rfl (base:=w1.heap.size) (e:=3) (size:=1) j0 (.int .i64 0) 8 Tryz.underlying27 hj0 hy0 hy1 hy2 rfl rfl (v:=.slice qa k qc) (n:=k) (xs:=intCells ((List.range k).map fun i=>((T.en i:Nat):Int))) (HQ2.out.ext (Ext.alloc w2 (.cells #[.int .i64 (T.en k:Nat)] 3))) (by rw [World.size_alloc];omega) (.slice (some ⟨w2.heap.size,0,none⟩) 1 1) 1 [.int .i64 (T.en k:Nat)] rfl (by exact Src.ofSlice _ Tryz.underlying27 ⟨w2.heap.size,0,none⟩ 1 1 _ rfl (news_ok w2 _ _) (one_i64 _)) (by unfold maxLen;omega) (by omega) ?_;rintro v9 w9 hq9 hg9 -;have H9:=Lib.hid (show Que w9 w1.heap.size 1 v9 (k+1) (intCells ((List.range (k+1)).map fun i=>((T.en i:Nat):Int))) from by rw [List.range_succ,List.map_append];simpa [intCells] using hq9);have hx19:Ext w1 w9:=Below.grown (hx12.trans (Ext.alloc w2 (.cells #[.int .i64 (T.en k:Nat)] 3))) hg9 (by rw [World.size_alloc];have:=hx12.le;omega) (fun g e=>by exact HQ2.out.block g e);clear hq9 hg9)
  go_wp2_with fail
  go_roundg (T.n - (k+1))
  case rel=>exact ⟨k+1,by omega,rfl,by go_num,hx19,H9.out⟩
  case measure=>omega
abbrev TBox (w:World) (g:Nat) (T:TM):Prop:=∀ w',Ext w w'→∀ i,w'.cell? ⟨g,i,none⟩=#[Value.slice T.a T.n T.cap][i]?
abbrev SBox (w:World) (g:Nat) (S:SlcD):Prop:=∀ w',Ext w w'→∀ i,w'.cell? ⟨g,i,none⟩=#[Value.bool S.em,S.f.s.v,S.l.s.v,S.j.s.v][i]?
set_option maxHeartbeats 1000000 in
theorem valid1_any (w : World) (T : TM) (hT : T.At w) (S : SlcD) (hS : S.At w) (bt bs : Nat) (ct : TBox w bt T) (cs : SBox w bs S) (p i : Nat) (hp : p < T.n) (hi : i < T.en p) (hSh : S.Shaped T.toTr) :
    Calls Tryz.prog 62 #[.agg #[.int .i64 (p:Int),.int .i64 ((i:Int)+1)],.pointer (some ⟨bt,0,none⟩),.pointer (some ⟨bs,0,none⟩)] w (BoolPost (S.Right T.toTr p i) w):=by
 have HR:=Lib.hid (fun W (x:Ext w W)=>right_any W T (hT.ext x) S (hS.ext x) p i hp hi hSh)
 simp only [TM.val] at HR
 clear hT hS hp hi hSh
 go_enter Tryz.func62,Tryz.ntmps62
 go_upto_region 1 with fail
 refine boxed1 (w:=w) (G:=fun x=>Code.wp _ _ _ _ x) ?_
 intro w1 hx1 hs1 ⟨l0,c0,_,_⟩
 have hx11:Ext w1 w1:=Ext.refl _
 clear hs1
 go_wp2_with fail
 go_at_call 63
 refine (HR.out w1 hx1).mono ?_
 rintro e w2 ⟨b,rfl,hb,hx2⟩
 have HB:=Lib.hid hb
 clear hb
 go_wp2_with fail
 go_ret
 exact ⟨b,rfl,HB.out,hx1.trans hx2⟩
set_option maxHeartbeats 1000000 in
theorem valid21_any (w : World) (S : SlcD) (hS : S.At w) (bs bc : Nat) (cs : SBox w bs S) (a : Option Addr) (g o n c : Nat) (v : Nat → Int) (hC : NumAt w n a g o v) (cc : ∀ w', Ext w w' → ∀ i, w'.cell? ⟨bc, i, none⟩ = #[Value.slice a n c][i]?) (p i : Nat) (hp : p < S.j.s.n) (hi : i < (S.j.m p).n) :
    Calls Tryz.prog 66 #[.agg #[.int .i64 (p:Int),.int .i64 ((i:Int)+1)],.pointer (some ⟨bs,0,none⟩),.pointer (some ⟨bc,0,none⟩)] w (BoolPost (LeqL ((S.j.m p).rn i) n ((S.j.m p).val i) v) w):=by
 have HE:=Lib.hid (fun W (x:Ext w W)=>sel_any W S (hS.ext x) p i _ hp hi rfl)
 obtain ⟨b,hb⟩:=exists_bool (LeqL ((S.j.m p).rn i) n ((S.j.m p).val i) v)
 have HL:=Lib.hid (fun W (x:Ext w W)=>(cleq_any W _ _ _ _ _ _ _ _ ((S.j.m p).rc i) c _ _ (((hS.j.c p hp).2.num hi).ext x) (hC.ext x)).mono fun e w' h=>BoolPost.fix hb h)
 have HB:=Lib.hid hb
 clear hS hC hp hi hb
 go_enter Tryz.func66,Tryz.ntmps66
 go_upto_region 1 with fail
 refine boxed1 (w:=w) (G:=fun x=>Code.wp _ _ _ _ x) ?_
 intro w1 hx1 hs1 ⟨l0,c0,_,_⟩
 have hx11:Ext w1 w1:=Ext.refl _
 have hg0:∀ d os,Ext w (Sort.grow (redrawn w1 d) os):=fun d os=>hx1.trans (below_regrown w1 d os)
 have hg1:∀ d os,Ext w1 (Sort.grow (redrawn w1 d) os):=fun d os=>below_regrown w1 d os
 clear hs1
 refine wp_region_quiet_below (by kernel_rfl) (by kernel_rfl) ?_
 go_big_quiet_step (fail)
 go_big_quiet_step (fail)
 go_big_quiet_step (exact Calls.regrown_of (HE.out _ (hg0 _ _)))
 go_big_quiet_step (fail)
 go_big_quiet_step (exact Calls.regrown_of (HL.out _ (hg0 _ _)))
 repeat (go_big_quiet_step (fail))
 refine wpQuiet_nil ?_
 intro _ hw'
 obtain ⟨⟨dq,osq⟩,hw''⟩:=hw'
 subst hw''
 have hx9:=hg0 dq osq
 clear hg0 hg1
 go_wp2_with fail
 go_ret
 exact ⟨b,rfl,HB.out,hx9⟩
def SlcD.Clos (S:SlcD) (p i:Nat):Prop:=∀ q k:Nat,q<(S.j.m p).rn i→(k:Int)<(S.j.m p).val i q→LeqL ((S.j.m q).rn k) ((S.j.m p).rn i) ((S.j.m q).val k) ((S.j.m p).val i)
set_option maxHeartbeats 1000000 in
theorem valid2_any (w : World) (S : SlcD) (hS : S.At w) (bs : Nat) (cs : SBox w bs S) (p i : Nat) (hp : p < S.j.s.n) (hi : i < (S.j.m p).n) (hr : ∀ q, q < (S.j.m p).rn i → (S.j.m p).val i q ≤ 1000000)
    (hin:∀ q k:Nat,q<(S.j.m p).rn i→(k:Int)<(S.j.m p).val i q→q<S.j.s.n∧k<(S.j.m q).n) :
    Calls Tryz.prog 64 #[.agg #[.int .i64 (p:Int),.int .i64 ((i:Int)+1)],.pointer (some ⟨bs,0,none⟩)] w (BoolPost (S.Clos p i) w):=by
 have HE:=Lib.hid (fun W (x:Ext w W)=>sel_any W S (hS.ext x) p i _ hp hi rfl)
 have HN:=Lib.hid ((hS.j.c p hp).2.num hi)
 have HS:=Lib.hid hS
 have HIN:=Lib.hid hin
 have HR:=Lib.hid hr
 clear hS hp hi hin hr
 go_enter Tryz.func64,Tryz.ntmps64
 go_upto_region 1 with fail
 refine boxed1 (w:=w) (G:=fun x=>Code.wp _ _ _ _ x) ?_
 intro w1 hx1 hs1 ⟨l0,c0,_,_⟩
 have hx11:Ext w1 w1:=Ext.refl _
 clear hs1
 go_upto_region 2 with (go_at_call 65;refine (HE.out w1 hx1).mono ?_;rintro e w2 ⟨rfl,hx2⟩)
 refine boxed1 (w:=w2) (G:=fun x=>Code.wp _ _ _ _ x) ?_
 intro w3 hx3 hs3 ⟨l3,c3,_,_⟩
 have hx33:Ext w3 w3:=Ext.refl _
 have hxw3:=(hx1.trans hx2).trans hx3
 clear hs3
 have hEA:=each34_any w3 _ _ _ _ ((S.j.m p).rc i) _ (HN.out.ext hxw3) HR.out 66 #[.pointer (some ⟨bs,0,none⟩),.pointer (some ⟨w2.heap.size,0,none⟩)] (fun q k=>LeqL ((S.j.m q).rn k) ((S.j.m p).rn i) ((S.j.m q).val k) ((S.j.m p).val i))
  (enters_of Tryz.func66 (by kernel_rfl) rfl)
  (fun q k hq hk W x=>valid21_any W S (HS.out.ext (hxw3.trans x)) bs w2.heap.size (fun w' y=>cs w' ((hxw3.trans x).trans y)) _ _ _ _ _ _ (HN.out.ext (hxw3.trans x)) (fun w' y=>c3 w' (x.trans y)) q k (HIN.out q k hq hk).1 (HIN.out q k hq hk).2)
 have HEA:=Lib.hid hEA
 clear hEA
 go_wp2_with fail
 go_at_call 60
 refine HEA.out.mono ?_
 rintro e w4 ⟨b,rfl,hb,hx4⟩
 have HB:=Lib.hid hb
 clear hb
 go_wp2_with fail
 go_ret
 exact ⟨b,rfl,HB.out,hxw3.trans hx4⟩
end Go.Proofs.YtlfdfkbmollaaaaGreatDoor

namespace Go.Proofs.YtlfdfkbmollaaaaGreatDoor
open Go.RowKit Go.Shelf
theorem Tr.IsCut.congr {T:Tr} {n:Nat} {v u:Nat→Int} (h:T.IsCut n v) (e:∀ p,p<T.n→u p=v p):T.IsCut n u:=
 ⟨h.1,fun p hp=>by rw [e p hp];exact h.2.1 p hp,fun x hV hk h3=>by rw [e _ (Tr.sndN_V hV).1];exact h.2.2 x hV (by rwa [e _ hV.1] at hk) h3⟩
theorem SlcD.Right.cut {S:SlcD} {T:Tr} {p i:Nat} (hSh:S.Shaped T) (h:S.Right T p i) (hl:(i:Int)+1≤S.l.z p):T.IsCut ((S.j.m p).rn i) ((S.j.m p).val i):=by
 by_cases hf:(i:Int)+1≤S.f.z p
 ·have h1:=(h.1 hl).1 hf
  have h2:=hSh.1.1
  have h3:(S.j.m p).rn i=T.n:=h1.1.trans h2.1.2
  rw [h3]
  have h4:=h2.1.2▸h2
  exact Tr.IsCut.congr h4 fun q hq=>h1.2 q (by omega)
 ·exact ((h.1 hl).2 hf).1
def enV (T:TM):Nat→Int:=fun k=>((T.en k:Nat):Int)
def SlcD.Ok (S:SlcD) (T:Tr):Prop:=T.Valid∧((S.em=true∧S.f.s.n=0∧S.l.s.n=0∧S.j.s.n=0)∨
 (S.em=false∧S.Shaped T∧(∀ p i:Nat,p<T.n→i<T.en p→S.Right T p i)∧∀ p i:Nat,p<T.n→(i:Int)<S.l.z p→S.Clos p i))
set_option maxHeartbeats 2000000 in
theorem svalid_any (w:World) (T:TM) (hT:T.At w) (S:SlcD) (hS:S.At w):Calls Tryz.prog 17 #[T.val,S.val] w (BoolPost (S.Ok T.toTr) w):=by
 have hfs:=hS.f.s.hn
 have hls:=hS.l.s.hn
 have hjn:=hS.j.s.hn
 have HVL:=Lib.hid (fun W (x:Ext w W)=>valid_any W T (hT.ext x))
 have HSH:=Lib.hid (fun W (x:Ext w W)=>shaped_any W T (hT.ext x) S (hS.ext x))
 have HFI:=Lib.hid (fun W (x:Ext w W) (h:T.n≤1000)=>final_any W T (hT.ext x) h)
 have HT:=Lib.hid hT
 have HS:=Lib.hid hS
 simp only [TM.val] at HVL HSH HFI ⊢
 clear hT hS
 obtain ⟨em,hem⟩:∃ z,z=S.em:=⟨_,rfl⟩
 have HEM:=Lib.hid hem
 simp only [SlcD.val,SlD.v,←hem] at HSH ⊢
 clear hem
 go_enter Tryz.func17,Tryz.ntmps17
 go_upto_region 1 with fail
 refine boxed2 (w:=w) (G:=fun x=>Code.wp _ _ _ _ x) ?_
 intro w1 hx1 hs1 ⟨l0,c0,_,_⟩ ⟨l1,c1,_,_⟩
 have hx11:Ext w1 w1:=Ext.refl _
 clear hs1
 go_wp2_with fail
 go_at_call 34
 refine (HVL.out w1 hx1).mono ?_
 rintro e w2 ⟨b,rfl,hb,hx2⟩
 have HB:=Lib.hid hb
 have hxw2:=hx1.trans hx2
 have hx12:=hx2
 clear hb hx2
 cases b with
 | false =>
  go_wp2_with fail
  go_ret
  exact ⟨false,by first | rfl | simp,⟨fun h=>(by cases h),fun h=>absurd (HB.out.2 h.1) (by decide)⟩,hxw2⟩
 | true =>
 have HV:=Lib.hid (HB.out.1 rfl)
 clear HB
 cases em with
 | true =>
  have b1:((S.f.s.n:Int) == 0)=decide (S.f.s.n=0):=by cases h:decide (S.f.s.n=0) with
   | true => have:=of_decide_eq_true h;simp [this]
   | false => have:=of_decide_eq_false h;simp [this]
  have b2:((S.l.s.n:Int) == 0)=decide (S.l.s.n=0):=by cases h:decide (S.l.s.n=0) with
   | true => have:=of_decide_eq_true h;simp [this]
   | false => have:=of_decide_eq_false h;simp [this]
  have b3:((S.j.s.n:Int) == 0)=decide (S.j.s.n=0):=by cases h:decide (S.j.s.n=0) with
   | true => have:=of_decide_eq_true h;simp [this]
   | false => have:=of_decide_eq_false h;simp [this]
  have HO:=Lib.hid (show S.Ok T.toTr↔S.f.s.n=0∧S.l.s.n=0∧S.j.s.n=0 from
   ⟨fun h=>h.2.elim (fun k=>k.2) (fun k=>absurd (HEM.out.trans k.1) (by decide)),fun h=>⟨HV.out,.inl ⟨HEM.out.symm,h⟩⟩⟩)
  cases h1:decide (S.f.s.n=0) with
  | false =>
   rw [h1] at b1
   have H1:=Lib.hid h1
   clear h1
   go_wp2_with fail
   go_ret
   exact ⟨false,by first | rfl | simp,⟨fun h=>(by cases h),fun h=>absurd (HO.out.1 h).1 (of_decide_eq_false H1.out)⟩,hxw2⟩
  | true =>
   rw [h1] at b1
   have H1:=Lib.hid h1
   clear h1
   cases h2:decide (S.l.s.n=0) with
   | false =>
    rw [h2] at b2
    have H2:=Lib.hid h2
    clear h2
    go_wp2_with fail
    go_ret
    exact ⟨false,by first | rfl | simp,⟨fun h=>(by cases h),fun h=>absurd (HO.out.1 h).2.1 (of_decide_eq_false H2.out)⟩,hxw2⟩
   | true =>
    rw [h2] at b2
    have H2:=Lib.hid h2
    clear h2
    cases h3:decide (S.j.s.n=0) with
    | false =>
     rw [h3] at b3
     have H3:=Lib.hid h3
     clear h3
     go_wp2_with fail
     go_ret
     exact ⟨false,by first | rfl | simp,⟨fun h=>(by cases h),fun h=>absurd (HO.out.1 h).2.2 (of_decide_eq_false H3.out)⟩,hxw2⟩
    | true =>
     rw [h3] at b3
     have H3:=Lib.hid h3
     clear h3
     go_wp2_with fail
     go_ret
     exact ⟨true,by first | rfl | simp,⟨fun _=>HO.out.2 ⟨of_decide_eq_true H1.out,of_decide_eq_true H2.out,of_decide_eq_true H3.out⟩,fun _=>rfl⟩,hxw2⟩
 | false =>
  have HNE:=Lib.hid (show S.Ok T.toTr→S.Shaped T.toTr∧(∀ p i:Nat,p<T.n→i<T.en p→S.Right T.toTr p i)∧∀ p i:Nat,p<T.n→(i:Int)<S.l.z p→S.Clos p i from fun h=>h.2.elim (fun k=>absurd (HEM.out.trans k.1) (by decide)) (fun k=>k.2))
  go_wp2_with fail
  go_at_call 59
  refine (HSH.out w2 hxw2).mono ?_
  rintro e w3 ⟨b,rfl,hb,hx3⟩
  have HB:=Lib.hid hb
  have hxw3:=hxw2.trans hx3
  have hx13:=hx12.trans hx3
  clear hb hx3
  cases b with
  | false =>
   go_wp2_with fail
   go_ret
   exact ⟨false,by first | rfl | simp,⟨fun h=>(by cases h),fun h=>absurd (HB.out.2 (HNE.out h).1) (by decide)⟩,hxw3⟩
  | true =>
   have HSD:=Lib.hid (HB.out.1 rfl)
   clear HB
   have hn1000:T.n≤1000:=by have:=HV.out.n8;omega
   have HEN:=Lib.hid (show ∀ p,p<T.n→T.en p≤1000000 from fun p hp=>by have:=(HV.out.pr p hp).2.2.2.2;omega)
   go_wp2_with fail
   go_at_call 61
   refine (HFI.out w3 hxw3 hn1000).mono ?_
   rintro e w4 ⟨hx4,v,rfl,hq⟩
   obtain ⟨fa,fg,fo,fc,hv,hfc,hpa,hcell⟩:=hq.cells1
   subst hv
   have hxw4:=hxw3.trans hx4
   have hx14:=hx13.trans hx4
   have hnu:NumAt w4 T.n fa fg fo (enV T):=⟨by omega,fun h0=>(hpa h0).1,fun h0=>(hpa h0).2.2,fun k hk=>by rw [hcell k hk];simp [intCells,hk,enV]⟩
   have hEA:=each34_any w4 fa fg fo T.n fc (enV T) hnu (fun p hp=>by have:=HEN.out p hp;simp only [enV];omega) 62 #[.pointer (some ⟨w.heap.size,0,none⟩),.pointer (some ⟨w.heap.size+1,0,none⟩)] (fun p i=>S.Right T.toTr p i)
    (enters_of Tryz.func62 (by kernel_rfl) rfl)
    (fun p i hp hi W x=>valid1_any W T (HT.out.ext (hxw4.trans x)) S (HS.out.ext (hxw4.trans x)) w.heap.size (w.heap.size+1) (fun w' y=>c0 w' ((hx14.trans x).trans y)) (fun w' y=>by rw [←HEM.out];exact c1 w' ((hx14.trans x).trans y)) p i hp (by simp only [enV] at hi;omega) HSD.out)
   have HEA:=Lib.hid hEA
   clear hEA hq hfc hpa hcell hnu hx4
   go_wp2_with fail
   go_at_call 60
   refine HEA.out.mono ?_
   rintro e w5 ⟨b,rfl,hb,hx5⟩
   have HB:=Lib.hid (show b=true↔∀ p i:Nat,p<T.n→i<T.en p→S.Right T.toTr p i from hb.trans ⟨fun h p i hp hi=>h p i hp (by simp only [enV];omega),fun h p i hp hi=>h p i hp (by simp only [enV] at hi;omega)⟩)
   have hxw5:=hxw4.trans hx5
   have hx15:=hx14.trans hx5
   clear hb hx5 HEA
   cases b with
   | false =>
    go_wp2_with fail
    go_ret
    exact ⟨false,by first | rfl | simp,⟨fun h=>(by cases h),fun h=>absurd (HB.out.2 (HNE.out h).2.1) (by decide)⟩,hxw5⟩
   | true =>
    have HR:=Lib.hid (HB.out.1 rfl)
    clear HB
    have HIN:=Lib.hid (show ∀ p i:Nat,p<T.n→(i:Int)<S.l.z p→i<T.en p∧T.toTr.IsCut ((S.j.m p).rn i) ((S.j.m p).val i) from fun p i hp hi=>by
     have h1:=(HSD.out.1.2.1.2.1 p hp).2
     have h2:i<T.en p:=by omega
     exact ⟨h2,(HR.out p i hp h2).cut HSD.out (by omega)⟩)
    have hln:S.l.s.n=T.n:=HSD.out.1.2.1.1.2
    have hjt:S.j.s.n=T.n:=HSD.out.1.2.2.2
    have HLN:=Lib.hid hln
    have hEA:=each34_any w5 S.l.s.a S.l.s.b S.l.s.o S.l.s.n S.l.s.c S.l.z (HS.out.l.num.ext hxw5) (fun p hp=>by have h1:=(HSD.out.1.2.1.2.1 p (by omega)).2;have h2:=HEN.out p (by omega);omega) 64 #[.pointer (some ⟨w.heap.size+1,0,none⟩)] (fun p i=>S.Clos p i)
     (enters_of Tryz.func64 (by kernel_rfl) rfl)
     (fun p i hp hi W x=>valid2_any W S (HS.out.ext (hxw5.trans x)) (w.heap.size+1) (fun w' y=>by rw [←HEM.out];exact c1 w' ((hx15.trans x).trans y)) p i (by omega) (by rw [HSD.out.2 p (by omega)];exact (HIN.out p i (by omega) hi).1)
      (fun q hq=>by have h1:=(HIN.out p i (by omega) hi).2;have h2:=(h1.2.1 q (by have:=h1.1.2;omega)).2;have h3:=HEN.out q (by have:=h1.1.2;omega);omega)
      (fun q k hq hk=>by
       have h1:=(HIN.out p i (by omega) hi).2
       have hq':q<T.n:=by have:=h1.1.2;omega
       have h2:=(h1.2.1 q hq').2
       exact ⟨by omega,by rw [HSD.out.2 q hq'];omega⟩))
    have HEA:=Lib.hid hEA
    clear hEA hln hjt
    go_wp2_with fail
    go_at_call 60
    refine HEA.out.mono ?_
    rintro e w6 ⟨b,rfl,hb,hx6⟩
    have HB:=Lib.hid hb
    have hxw6:=hxw5.trans hx6
    clear hb hx6
    go_wp2_with fail
    go_ret
    exact ⟨b,rfl,HB.out.trans ⟨fun h=>⟨HV.out,.inr ⟨HEM.out.symm,HSD.out,HR.out,fun p i hp hi=>h p i (by rw [HLN.out];exact hp) hi⟩⟩,fun h p i hp hi=>(HNE.out h).2.2 p i (by rw [←HLN.out];exact hp) hi⟩,hxw6⟩
set_option maxHeartbeats 1000000 in
theorem rfits22_any (w : World) (T : TM) (a : Option Addr) (n cap : Nat) (b : Bool) (hb : b = true ↔ n = T.n) :
    Calls Tryz.prog 116 #[T.val,.slice a n cap] w fun e w'=>e=.returned (.bool b)∧Ext w w':=by
 have hd:((n:Int) == (T.n:Int))=b:=by
  rw [Bool.eq_iff_iff,hb];simp;constructor <;> intro h <;> omega
 simp only [TM.val]
 clear hb
 go_enter Tryz.func116,Tryz.ntmps116
 go_upto_region 1 with fail
 refine boxed1 (w:=w) (G:=fun x=>Code.wp _ _ _ _ x) ?_
 intro w1 hx1 hs1 ⟨l0,c0,_,_⟩
 have hx11:Ext w1 w1:=Ext.refl _
 clear hs1
 go_wp2_with fail
 go_ret
 exact ⟨by rw [←hd];first | rfl | simp,hx1⟩
end Go.Proofs.YtlfdfkbmollaaaaGreatDoor
