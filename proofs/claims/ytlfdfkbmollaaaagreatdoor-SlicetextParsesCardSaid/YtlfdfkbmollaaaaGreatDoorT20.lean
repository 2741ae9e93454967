/- Contracts and laws in plain Lean for RApp: group T20. -/
import Derived.Test.YtlfdfkbmollaaaaGreatDoorT06
import Derived.Test.YtlfdfkbmollaaaaGreatDoorT01
import Derived.RangeFuncNested
import Derived.RangeFuncBound
import Derived.RangeFuncCalls
import Derived.RangeFuncLeaves
import Derived.Shelf.Abstract
import Derived.Test.YtlfdfkbmollaaaaGreatDoorT18
import Derived.Test.YtlfdfkbmollaaaaGreatDoorT04
import Derived.Test.YtlfdfkbmollaaaaGreatDoorT02
import Derived.Test.YtlfdfkbmollaaaaGreatDoorT05
import Derived.Deep.Cut
import Derived.Deep.LoopGhost
import Derived.Deep.AppendLies
import Derived.Laws.BitsLemmas
import Derived.Deep.RegionHeld3
import Derived.Test.YtlfdfkbmollaaaaGreatDoorT07
set_option maxRecDepth 100000
namespace Go.Proofs.YtlfdfkbmollaaaaGreatDoor
open Go.RowKit
theorem Tr.Valid.en64 {T:Tr} (h:T.Valid) {p:Nat} (hp:p<T.n):T.en p≤64:=(h.pr p hp).2.2.2.2
end Go.Proofs.YtlfdfkbmollaaaaGreatDoor

namespace Go.Proofs.YtlfdfkbmollaaaaGreatDoor
open Go.RowKit Go.Shelf
section
variable {α:Type} {P:Program} {F:Fence} {n:Nat}
end
end Go.Proofs.YtlfdfkbmollaaaaGreatDoor

namespace Go.Proofs.YtlfdfkbmollaaaaGreatDoor
open Go.RowKit Go.Shelf
attribute [local go_sem] Oper.semAt_some
section
end
end Go.Proofs.YtlfdfkbmollaaaaGreatDoor

namespace Go.Proofs.YtlfdfkbmollaaaaGreatDoor
open Go.RowKit Go.Shelf
attribute [local go_sem] Oper.semAt_some
theorem Que.lt' {w:World} {base size:Nat} {v:Value} {n:Nat} {xs:List Value} (h:Que w base size v n xs) (h0:0<n):∀ k,v.ownBlock=some k→k<w.heap.size:=by
 intro k e
 rcases h.val with ⟨_,_,hz,_⟩ | ⟨g,off,cap,rfl,_,h2,_⟩
 ·omega
 ·cases e;exact h2
theorem Que.shape {w:World} {base size:Nat} {v:Value} {n:Nat} {xs:List Value} (h:Que w base size v n xs) (h0:0<n):∃ g off cap,v=.slice (some ⟨g,off,none⟩) n cap∧base≤g∧g<w.heap.size∧n≤cap∧∀ j,j<n*size→w.cell? ⟨g,off+j,none⟩=xs[j]?:=by
 rcases h.val with ⟨_,_,hz,_⟩ | ⟨g,off,cap,hv,h1,h2,h3,_,h5,_⟩
 ·omega
 ·exact ⟨g,off,cap,hv,h1,h2,h3,h5⟩
end Go.Proofs.YtlfdfkbmollaaaaGreatDoor

namespace Go.Proofs.YtlfdfkbmollaaaaGreatDoor
open Go.RowKit Go.Shelf
attribute [local go_sem] Oper.semAt_some
end Go.Proofs.YtlfdfkbmollaaaaGreatDoor

namespace Go.Proofs.YtlfdfkbmollaaaaGreatDoor
open Go.RowKit Go.Shelf
end Go.Proofs.YtlfdfkbmollaaaaGreatDoor

namespace Go.Proofs.YtlfdfkbmollaaaaGreatDoor
open Go.RowKit
end Go.Proofs.YtlfdfkbmollaaaaGreatDoor

namespace Go.Proofs.YtlfdfkbmollaaaaGreatDoor
open Go.RowKit
/-! the residual network: arc 2i is edge i,arc 2i+1 is the way back -/
end Go.Proofs.YtlfdfkbmollaaaaGreatDoor

namespace Go.Proofs.YtlfdfkbmollaaaaGreatDoor
open Go.RowKit
end Go.Proofs.YtlfdfkbmollaaaaGreatDoor

namespace Go.Proofs.YtlfdfkbmollaaaaGreatDoor
open Go.RowKit
/-! sums of variables -/
end Go.Proofs.YtlfdfkbmollaaaaGreatDoor

namespace Go.Proofs.YtlfdfkbmollaaaaGreatDoor
open Go.RowKit
namespace Pr
end Pr
end Go.Proofs.YtlfdfkbmollaaaaGreatDoor

namespace Go.Proofs.YtlfdfkbmollaaaaGreatDoor
open Go.RowKit
end Go.Proofs.YtlfdfkbmollaaaaGreatDoor

namespace Go.Proofs.YtlfdfkbmollaaaaGreatDoor
open Go.RowKit
end Go.Proofs.YtlfdfkbmollaaaaGreatDoor

namespace Go.Proofs.YtlfdfkbmollaaaaGreatDoor
open Go.ChangeShapes Go.WideShapes Go.RowKit Go.Deep
section
variable {H:Type} {enc:TypeId × Value→H} {w:World} {base:Nat} {held:Bool} {fuel:Nat} {cs:List Value} {x:DataW H × List MemPlace}
end
section
variable {H:Type} {enc:TypeId × Value→H} {W:World}
end
end Go.Proofs.YtlfdfkbmollaaaaGreatDoor

namespace Go.Proofs.YtlfdfkbmollaaaaGreatDoor
open Go.RowKit Go.Shelf
/-! edges -/
/-! a row of n numbers in a block of its own -/
/-! rows that grow: row k is the value vs k,of the call's own;the row of rows lies in block lb;no row lies in a block of A -/
/-! the residual network -/
/-! while it is laid -/
theorem one_int (x:Int):∀ u∈[Value.int .i64 x],u.oneCell'=true:=by
 intro u hu
 simp at hu
 subst hu;rfl
theorem Que.cells1 {w : World} {base : Nat} {v : Value} {n : Nat} {xs : List Value} (h : Que w base 1 v n xs) :
    ∃ a g off cap,v=.slice a n cap∧n≤cap∧(0<n→a=some ⟨g,off,none⟩∧base≤g∧g<w.heap.size)∧∀ k,k<n→w.cell? ⟨g,off+k,none⟩=xs[k]?:=by
 rcases h.val with ⟨ao,hv,h0,ha⟩ | ⟨g,off,cap,hv,h1,h2,h3,h4,h5,h6⟩
 ·exact ⟨ao,0,0,0,by rw [hv,h0],by omega,fun h=>by omega,fun k hk=>by omega⟩
 ·exact ⟨_,g,off,cap,hv,h3,fun _=>⟨rfl,h1,h2⟩,fun k hk=>h5 k (by omega)⟩
end Go.Proofs.YtlfdfkbmollaaaaGreatDoor

namespace Go.Proofs.YtlfdfkbmollaaaaGreatDoor
open Go.RowKit
end Go.Proofs.YtlfdfkbmollaaaaGreatDoor

namespace Go.Proofs.YtlfdfkbmollaaaaGreatDoor
open Go.RowKit Go.Shelf
attribute [local go_sem] Oper.semAt_some
end Go.Proofs.YtlfdfkbmollaaaaGreatDoor

namespace Go.Proofs.YtlfdfkbmollaaaaGreatDoor
open Go.RowKit Go.Shelf
end Go.Proofs.YtlfdfkbmollaaaaGreatDoor

namespace Go.Proofs.YtlfdfkbmollaaaaGreatDoor
open Go.RowKit
end Go.Proofs.YtlfdfkbmollaaaaGreatDoor

namespace Go.Proofs.YtlfdfkbmollaaaaGreatDoor
open Go.RowKit Go.Shelf
attribute [local go_sem] Oper.semAt_some
end Go.Proofs.YtlfdfkbmollaaaaGreatDoor

namespace Go.Proofs.YtlfdfkbmollaaaaGreatDoor
open Go.RowKit Go.Shelf
structure NumAt (W:World) (n:Nat) (a:Option Addr) (g o:Nat) (v:Nat→Int):Prop where
 hn:n≤140737488355328
 pa:0<n→a=some ⟨g,o,none⟩
 pb:0<n→g<W.heap.size
 c:∀ k,k<n→W.cell? ⟨g,o+k,none⟩=some (.int .i64 (v k))
theorem NumAt.ext {W W':World} {n:Nat} {a:Option Addr} {g o:Nat} {v:Nat→Int} (h:NumAt W n a g o v) (x:Ext W W'):NumAt W' n a g o v:=
 ⟨h.hn,h.pa,fun h0=>Nat.lt_of_lt_of_le (h.pb h0) x.le,fun k hk=>x.cell (h.c k hk)⟩
def Tr.InR (T:Tr) (n:Nat) (v:Nat→Int):Prop:=∀ p,p<n→0≤v p∧v p≤T.en p
def Tr.ClC (T:Tr) (v:Nat→Int):Prop:=∀ x,T.V x→(x.2:Int)<v x.1→T.kind x.1 x.2=3→((T.sndN x).2:Int)<v (T.sndN x).1
def CmisPost (T:Tr) (v:Nat→Int) (w:World) (e:Ending) (w':World):Prop:=Ext w w'∧∃ (a b c d:Int) (f:Bool),e=.returned (.tuple #[.agg #[.int .i64 a,.int .i64 b],.agg #[.int .i64 c,.int .i64 d],.bool f])∧(f=true↔¬T.ClC v)
theorem cmis_results (tmps : Array Value) (W : World) (b b' : Nat) (x0 x1 y0 y1 u : Value) (t4 : tmps[4]? = some (.pointer (some ⟨b, 0, none⟩))) (t5 : tmps[5]? = some (.pointer (some ⟨b', 0, none⟩))) (t6 : tmps[6]? = some u)
    (c0:W.cell? ⟨b,0,none⟩=some x0) (c1:W.cell? ⟨b,1,none⟩=some x1) (d0:W.cell? ⟨b',0,none⟩=some y0) (d1:W.cell? ⟨b',1,none⟩=some y1) :
    (results Tryz.f235 tmps).run Tryz.prog W=.ok (.tuple #[.agg #[x0,x1],.agg #[y0,y1],u]) W:=by
 simp [results,go_sem,t4,t5,t6,c0,c1,d0,d1]
theorem mis_set {w W : World} (h1 : Hold W (w.heap.size + 1) #[.int .i64 0, .int .i64 0]) (h2 : Hold W (w.heap.size + 1 + 1) #[.int .i64 0, .int .i64 0]) (a b c d : Value) :
    ∀ W9,W9=(((W.setCell ⟨w.heap.size+1,0,none⟩ a).setCell ⟨w.heap.size+1,1,none⟩ b).setCell ⟨w.heap.size+1+1,0,none⟩ c).setCell ⟨w.heap.size+1+1,1,none⟩ d→
    Hold W9 (w.heap.size+1) #[a,b]∧Hold W9 (w.heap.size+1+1) #[c,d]:=by
 rintro W9 rfl
 refine ⟨?_,?_⟩
 ·exact (((h1.set 0 a).set 1 b).other _ _ (by dsimp only;omega)).other _ _ (by dsimp only;omega)
 ·exact (((h2.other _ _ (by dsimp only;omega)).other _ _ (by dsimp only;omega)).set 0 c).set 1 d
set_option maxHeartbeats 4000000 in
theorem cmis_any (w : World) (T : TM) (hT : T.At w) (hV : T.toTr.Valid) (a : Option Addr) (g o cap : Nat) (v : Nat → Int) (hC : NumAt w T.n a g o v) (hR : T.toTr.InR T.n v) :
    Calls Tryz.prog 235 #[T.val,.slice a T.n cap] w (CmisPost T.toTr v w):=by
 have HT:=Lib.hid hT
 have HV:=Lib.hid hV
 have HC:=Lib.hid hC
 have HR:=Lib.hid hR
 have hn8:=hV.n8
 unfold CmisPost
 obtain ⟨ta,hta⟩:∃ z,z=T.a:=⟨_,rfl⟩
 have HTA:=Lib.hid hta
 simp only [TM.val]
 rw [←hta]
 clear hT hV hC hR hta
 go_enter Tryz.func235,Tryz.ntmps235
 go_upto_region 1 with fail
 refine boxed3 (w:=w) (G:=fun x=>Code.wp _ _ _ _ x) ?_
 intro w1 hx1 hs1 ⟨l0,c0,f0,k0⟩ ⟨l1,c1,f1,k1⟩ ⟨l2,c2,f2,k2⟩
 have hx11:Ext w1 w1:=Ext.refl _
 clear hs1
 go_wp2_with fail
 go_loopg [15] T.n (fun gg v15 wr=>∃ k:Nat,k≤T.n∧gg=T.n - k∧v15=.int .i64 k∧Ext w1 wr∧∀ x,T.toTr.V x→x.1<k→(x.2:Int)<v x.1→T.kind x.1 x.2=3→((T.toTr.sndN x).2:Int)<v (T.toTr.sndN x).1)
 case atStart=>exact ⟨0,by omega,rfl,rfl,hx11,fun x _ h=>by omega⟩
 case round=>
  obtain ⟨k,hk,rfl,rfl,hxr,hall⟩:=hrel
  have HA:=Lib.hid hall
  have hxw:=hx1.trans hxr
  clear hall
  by_cases hlt:k<T.n
  ·have hlt':(k:Int)<(T.n:Int):=by omega
   obtain rfl:ta=some ⟨T.b,T.off,none⟩:=by rw [HTA.out];exact HT.out.P.pa (by omega)
   have hen:=HV.out.en64 hlt
   have pb:=HT.out.P.pb (by omega)
   have p0:∀ w',Ext w w'→w'.cell? ⟨T.b,T.off+k*3,none⟩=some (.string (T.name k)):=fun w' h=>HT.out.P.p0 w' h k hlt
   have p1:∀ w',Ext w w'→w'.cell? ⟨T.b,T.off+k*3+1,none⟩=some (.slice (T.va k) (T.vn k) (T.vc k)):=fun w' h=>HT.out.P.p1 w' h k hlt
   have p2:∀ w',Ext w w'→w'.cell? ⟨T.b,T.off+k*3+2,none⟩=some (.slice (T.ea k) (T.en k) (T.ec k)):=fun w' h=>HT.out.P.p2 w' h k hlt
   obtain rfl:=HC.out.pa (by omega)
   have gb:∀ w',Ext w w'→g<w'.heap.size:=fun w' x=>Nat.lt_of_lt_of_le (HC.out.pb (by omega)) x.le
   have hrk:=HR.out k hlt
   obtain ⟨ck,hck⟩:∃ ck:Nat,v k=ck:=⟨(v k).toNat,by omega⟩
   have gc:∀ w',Ext w w'→w'.cell? ⟨g,o+k,none⟩=some (.int .i64 (ck:Int)):=fun w' x=>by rw [←hck];exact x.cell (HC.out.c k hlt)
   rw [hck] at hrk
   have hec:=HT.out.E.ec k hlt
   have hck64:ck≤T.en k:=by omega
   have hck65:ck≤T.ec k:=by omega
   have hck66:(ck:Int)≤(T.ec k:Int):=by omega
   have HCK:=Lib.hid hck
   clear hck
   obtain ⟨ea,hea⟩:∃ z,z=T.ea k:=⟨_,rfl⟩
   rw [←hea] at p2
   have HEA:=Lib.hid hea
   clear hea
   go_wp2_with fail
   go_loopg [29] ck (fun gg v29 wr=>∃ i:Nat,i≤ck∧gg=ck - i∧v29=.int .i64 i∧Ext w1 wr∧∀ x,T.toTr.V x→(x.1<k∨(x.1=k∧x.2<i))→(x.2:Int)<v x.1→T.kind x.1 x.2=3→((T.toTr.sndN x).2:Int)<v (T.toTr.sndN x).1)
   case atStart=>exact ⟨0,by omega,rfl,rfl,hxr,fun x hx h=>HA.out x hx (by omega)⟩
   case round=>
    obtain ⟨i,hi,rfl,rfl,hxi,hall⟩:=hrel
    have HA2:=Lib.hid hall
    have hxwi:=hx1.trans hxi
    clear hall
    by_cases hli:i<ck
    ·have hli':(i:Int)<(ck:Int):=by omega
     have hie:i<T.en k:=by omega
     obtain rfl:ea=some ⟨T.eb k,T.eo k,none⟩:=by rw [HEA.out];exact HT.out.E.ea k hlt (by omega)
     have eb:=HT.out.E.eb k hlt (by omega)
     have e0:∀ w',Ext w w'→w'.cell? ⟨T.eb k,T.eo k+i*5,none⟩=some (.int .i64 (T.kind k i)):=fun w' x=>HT.out.E.e0 w' x k i hlt hie
     have e1:∀ w',Ext w w'→w'.cell? ⟨T.eb k,T.eo k+i*5+1,none⟩=some (.int .i64 (T.peer k i)):=fun w' x=>HT.out.E.e1 w' x k i hlt hie
     have e2:∀ w',Ext w w'→w'.cell? ⟨T.eb k,T.eo k+i*5+2,none⟩=some (.int .i64 (T.msg k i)):=fun w' x=>HT.out.E.e2 w' x k i hlt hie
     have e3:∀ w',Ext w w'→w'.cell? ⟨T.eb k,T.eo k+i*5+3,none⟩=some (.int .i64 (T.time k i)):=fun w' x=>HT.out.E.e3 w' x k i hlt hie
     have e4:∀ w',Ext w w'→w'.cell? ⟨T.eb k,T.eo k+i*5+4,none⟩=some (.slice (T.aa k i) (T.an k i) (T.ac k i)):=fun w' x=>HT.out.E.e4 w' x k i hlt hie
     obtain ⟨kd,hkd⟩:∃ z,z=T.kind k i:=⟨_,rfl⟩
     rw [←hkd] at e0
     have HKD:=Lib.hid hkd
     clear hkd
     go_upto_region 7 with fail
     refine boxed1 (w:=wr) (G:=fun x=>Code.wp _ _ _ _ x) ?_
     intro w4 hx4 hs4 ⟨l4,c4,_,_⟩
     have hx44:Ext w4 w4:=Ext.refl _
     have hx14:=hxi.trans hx4
     have hxw4:=hx1.trans hx14
     clear hs4 e0 e1 e2 e3 e4 eb
     by_cases h3:kd=3
     ·subst h3
      obtain ⟨⟨sp,si⟩,hsn⟩:∃ s,s=T.toTr.sndN (k,i):=⟨_,rfl⟩
      have hsv:=Tr.sndN_V (T:=T.toTr) (y:=(k,i)) ⟨hlt,hie⟩
      rw [←hsn] at hsv
      have hsp:sp<T.n:=hsv.1
      have hsi:si<T.en sp:=hsv.2
      have hse:=HV.out.en64 hsp
      have hSnd:Calls Tryz.prog 204 #[T.val,.int .i64 (T.msg k i)] w4 fun e w'=>e=.returned (.tuple #[.agg #[.int .i64 sp,.int .i64 (si+1)],.bool true])∧Ext w4 w':=
       (sender_any w4 T (HT.out.ext hxw4) HV.out _).mono fun e w' ⟨hx',p,q,b,he,hf⟩=>by
        obtain ⟨hp,hq,hb⟩:=HV.out.found (x:=⟨(k,i),hlt,hie⟩) HKD.out.symm hf
        rw [←Tr.sndN_eq,←hsn] at hp hq
        exact ⟨by rw [he,hp,hq,hb],hx'⟩
      simp only [TM.val,←HTA.out] at hSnd
      have HSN:=Lib.hid hsn
      have hrs:=HR.out sp hsp
      obtain ⟨cs,hcs⟩:∃ z:Int,z=v sp:=⟨_,rfl⟩
      have gs:∀ w',Ext w w'→w'.cell? ⟨g,o+sp,none⟩=some (.int .i64 cs):=fun w' x=>by rw [hcs];exact x.cell (HC.out.c sp hsp)
      have HCS:=Lib.hid hcs
      have hsp':(sp:Int)<(T.n:Int):=by omega
      clear hsn hsv hcs
      go_upto_region 9 with (go_at_call 204;refine hSnd.mono ?_;rintro e w5 ⟨rfl,hx5⟩;have hx45:Ext w4 w5:=hx5)
      refine boxed1 (w:=w5) (G:=fun x=>Code.wp _ _ _ _ x) ?_
      intro w6 hx6 hs6 ⟨l6,c6,_,_⟩
      have hx46:=hx45.trans hx6
      have hx16:=hx14.trans hx46
      have hxw6:=hxw4.trans hx46
      have hx66:Ext w6 w6:=Ext.refl _
      clear hs6 hSnd
      by_cases hgt:cs<(si:Int)+1
      ·have d1:decide (cs<(si:Int)+1)=true:=decide_eq_true hgt
       go_quiet (fail)
       have hx66d:Ext w6 (w6.drewN nq):=(Ext.refl w6).drewN nq
       have HK:=Lib.hid (And.intro (Hold.ext k1 (hx16.drewN nq)) (Hold.ext k2 (hx16.drewN nq)))
       have hx16d:=hx16.drewN nq
       have hw8:IntKind.i64.wrap ((i:Int)+1)=(i:Int)+1:=IntWalk.i64_in _ (by omega)
       go_wp2_with fail
       have HZ:=mis_set HK.out.1 HK.out.2 (.int .i64 sp) (.int .i64 (si+1)) (.int .i64 k) (.int .i64 (i+1)) _ rfl
       refine bodyPost_ret (cmis_results _ _ _ _ _ _ _ _ _ rfl rfl rfl (HZ.1.cell0 0) (HZ.1.cell0 1) (HZ.2.cell0 0) (HZ.2.cell0 1)) rfl ?_
       refine ⟨((((hxw6.drewN nq).setCell (by show w.heap.size≤w.heap.size+1;omega) _).setCell (by show w.heap.size≤w.heap.size+1;omega) _).setCell (by show w.heap.size≤w.heap.size+1+1;omega) _).setCell (by show w.heap.size≤w.heap.size+1+1;omega) _,_,_,_,_,_,rfl,?_⟩
       refine ⟨fun _ h=>?_,fun _=>rfl⟩
       have h9:=h (k,i) ⟨hlt,hie⟩ (by rw [HCK.out];exact hli') HKD.out.symm
       rw [←HSN.out] at h9
       dsimp only at h9
       rw [←HCS.out] at h9
       omega
      ·have d1:decide (cs<(si:Int)+1)=false:=decide_eq_false hgt
       go_quiet (fail)
       go_wp2_with fail
       go_roundg (ck - (i+1))
       case rel=>exact ⟨i+1,by omega,rfl,by go_num,hx16.drewN nq,fun x hx h1 h2 h4=>by
        by_cases e:x=(k,i)
        ·subst e
         rw [←HSN.out]
         dsimp only
         rw [←HCS.out];omega
        ·refine HA2.out x hx ?_ h2 h4
         rcases h1 with h1 | ⟨h1,h5⟩
         ·exact .inl h1
         ·refine .inr ⟨h1,?_⟩
          have h6:x.2≠i:=fun h7=>e (Prod.ext h1 h7)
          omega⟩
       case measure=>omega
     ·have d1:(kd == 3)=false:=by simpa using h3
      go_wp2_with fail
      go_roundg (ck - (i+1))
      case rel=>exact ⟨i+1,by omega,rfl,by go_num,hx14,fun x hx h1 h2 h4=>by
       by_cases e:x=(k,i)
       ·subst e
        exact absurd (HKD.out.trans h4) h3
       ·refine HA2.out x hx ?_ h2 h4
        rcases h1 with h1 | ⟨h1,h5⟩
        ·exact .inl h1
        ·refine .inr ⟨h1,?_⟩
         have h6:x.2≠i:=fun h7=>e (Prod.ext h1 h7)
         omega⟩
      case measure=>omega
    ·obtain rfl:i=ck:=by omega
     go_wp2_with fail
     go_roundg (T.n - (k+1))
     case rel=>exact ⟨k+1,by omega,rfl,by go_num,hxi,fun x hx h1 h2=>HA2.out x hx (by
      rcases Nat.lt_or_ge x.1 k with h | h
      ·exact .inl h
      ·have e:x.1=k:=by omega
       refine .inr ⟨e,?_⟩
       rw [e,HCK.out] at h2;omega) h2⟩
     case measure=>omega
  ·obtain rfl:k=T.n:=by omega
   have HK:=Lib.hid (And.intro (Hold.ext k1 hxr) (Hold.ext k2 hxr))
   go_wp2_with fail
   have HZ:=mis_set HK.out.1 HK.out.2 (.int .i64 0) (.int .i64 0) (.int .i64 0) (.int .i64 0) _ rfl
   refine bodyPost_ret (cmis_results _ _ _ _ _ _ _ _ _ rfl rfl rfl (HZ.1.cell0 0) (HZ.1.cell0 1) (HZ.2.cell0 0) (HZ.2.cell0 1)) rfl ?_
   refine ⟨(((hxw.setCell (by show w.heap.size≤w.heap.size+1;omega) _).setCell (by show w.heap.size≤w.heap.size+1;omega) _).setCell (by show w.heap.size≤w.heap.size+1+1;omega) _).setCell (by show w.heap.size≤w.heap.size+1+1;omega) _,_,_,_,_,_,rfl,?_⟩
   constructor
   ·intro h;cases h
   ·intro h;exact absurd (fun x hx=>HA.out x hx hx.1) h
attribute [local go_sem] Oper.semAt_some
set_option maxHeartbeats 1000000 in
theorem cclosed_any (w : World) (T : TM) (hT : T.At w) (hV : T.toTr.Valid) (a : Option Addr) (g o cap : Nat) (v : Nat → Int) (hC : NumAt w T.n a g o v) (hR : T.toTr.InR T.n v) :
    Calls Tryz.prog 192 #[T.val,.slice a T.n cap] w (BoolPost (T.toTr.ClC v) w):=by
 have HM:=Lib.hid (fun W (h:Ext w W)=>cmis_any W T (hT.ext h) hV a g o cap v (hC.ext h) hR)
 simp only [TM.val] at HM ⊢
 clear hT hV hC hR
 go_enter Tryz.func192,Tryz.ntmps192
 go_upto_region 1 with fail
 refine boxed1 (w:=w) (G:=fun x=>Code.wp _ _ _ _ x) ?_
 intro w1 hx1 hs1 ⟨l0,c0,_,_⟩
 have hx11:Ext w1 w1:=Ext.refl _
 clear hs1
 go_wp2_with fail
 go_at_call 235
 refine (HM.out w1 hx1).mono ?_
 rintro e w2 ⟨hx2,a',b',c',d',f,rfl,hf⟩
 have hxw2:=hx1.trans hx2
 have HF:=Lib.hid hf
 clear hf
 go_wp2_with fail
 go_ret
 refine ⟨!f,rfl,?_,(hxw2.alloc' _).alloc' _⟩
 have h1:=HF.out
 cases f with
 | false => simp at h1 ⊢;exact h1
 | true => simp at h1 ⊢;exact h1
set_option maxHeartbeats 1000000 in
theorem cin_any (w : World) (T : TM) (hT : T.At w) (a : Option Addr) (g o n cap : Nat) (v : Nat → Int) (hC : NumAt w n a g o v) (hn : n = T.n) :
    Calls Tryz.prog 190 #[T.val,.slice a n cap] w (BoolPost (T.toTr.InR T.n v) w):=by
 subst hn
 have HT:=Lib.hid hT
 have HC:=Lib.hid hC
 have hn0:=hT.P.hn
 obtain ⟨ta,hta⟩:∃ z,z=T.a:=⟨_,rfl⟩
 have HTA:=Lib.hid hta
 simp only [TM.val]
 rw [←hta]
 clear hT hC hta
 go_enter Tryz.func190,Tryz.ntmps190
 go_upto_region 1 with fail
 refine boxed1 (w:=w) (G:=fun x=>Code.wp _ _ _ _ x) ?_
 intro w1 hx1 hs1 ⟨l0,c0,_,_⟩
 have hx11:Ext w1 w1:=Ext.refl _
 clear hs1
 go_wp2_with fail
 go_loopg [9] T.n (fun gg v9 wr=>∃ k:Nat,k≤T.n∧gg=T.n - k∧v9=.int .i64 k∧Ext w1 wr∧∀ p,p<k→0≤v p∧v p≤T.en p)
 case atStart=>exact ⟨0,by omega,rfl,rfl,hx11,fun p h=>by omega⟩
 case round=>
  obtain ⟨k,hk,rfl,rfl,hxr,hall⟩:=hrel
  have HA:=Lib.hid hall
  have hxw:=hx1.trans hxr
  clear hall
  by_cases hlt:k<T.n
  ·have hlt':(k:Int)<(T.n:Int):=by omega
   obtain rfl:ta=some ⟨T.b,T.off,none⟩:=by rw [HTA.out];exact HT.out.P.pa (by omega)
   have hen:=HT.out.E.he k hlt
   have pb:=HT.out.P.pb (by omega)
   have p2:∀ w',Ext w w'→w'.cell? ⟨T.b,T.off+k*3+2,none⟩=some (.slice (T.ea k) (T.en k) (T.ec k)):=fun w' h=>HT.out.P.p2 w' h k hlt
   obtain rfl:=HC.out.pa (by omega)
   have gb:∀ w',Ext w w'→g<w'.heap.size:=fun w' x=>Nat.lt_of_lt_of_le (HC.out.pb (by omega)) x.le
   obtain ⟨vk,hvk⟩:∃ z,z=v k:=⟨_,rfl⟩
   have gc:∀ w',Ext w w'→w'.cell? ⟨g,o+k,none⟩=some (.int .i64 vk):=fun w' x=>by rw [hvk];exact x.cell (HC.out.c k hlt)
   have HVK:=Lib.hid hvk
   clear hvk
   by_cases h0:vk<0
   ·have d0:decide (vk<0)=true:=decide_eq_true h0
    go_wp2_with fail
    go_ret
    exact ⟨false,rfl,⟨fun h=>(by cases h),fun h=>absurd (h k hlt).1 (by rw [←HVK.out];omega)⟩,hxw⟩
   ·have d0:decide (vk<0)=false:=decide_eq_false h0
    by_cases h1:(T.en k:Int)<vk
    ·have d1:decide ((T.en k:Int)<vk)=true:=decide_eq_true h1
     go_wp2_with fail
     go_ret
     exact ⟨false,rfl,⟨fun h=>(by cases h),fun h=>absurd (h k hlt).2 (by rw [←HVK.out];omega)⟩,hxw⟩
    ·have d1:decide ((T.en k:Int)<vk)=false:=decide_eq_false h1
     go_wp2_with fail
     go_roundg (T.n - (k+1))
     case rel=>exact ⟨k+1,by omega,rfl,by go_num,hxr,fun p hp=>by
      by_cases e:p=k
      ·subst e;rw [←HVK.out];omega
      ·exact HA.out p (by omega)⟩
     case measure=>omega
  ·obtain rfl:k=T.n:=by omega
   go_wp2_with fail
   go_ret
   exact ⟨true,rfl,⟨fun _=>HA.out,fun _=>rfl⟩,hxw⟩
set_option maxHeartbeats 400000 in
theorem csz1_any (w : World) (a : Option Addr) (n cap tn : Nat) (bx : Nat) (ta : Option Addr) (tc : Nat) (hc : w.cell? ⟨bx, 0, none⟩ = some (.slice ta tn tc)) :
    Calls Tryz.prog 234 #[.slice a n cap,.pointer (some ⟨bx,0,none⟩)] w fun e w'=>e=.returned (.bool (decide (n≠tn)))∧Ext w w':=by
 have hlt:=cell_lt hc
 dsimp only at hlt
 go_enter Tryz.func234,Tryz.ntmps234
 go_wp2
 go_ret
 refine ⟨ret_bool ?_,Ext.refl _⟩
 by_cases e:n=tn
 ·subst e;simp
 ·have e2:¬(n:Int)=(tn:Int):=by omega
  simp [e,e2]
structure OneAt (W:World) (b:Nat) (v:Value):Prop where
 c:∀ w',Ext W w'→w'.cell? ⟨b,0,none⟩=some v
 l:∀ w',Ext W w'→b<w'.heap.size
theorem has_one (W : World) (b : Nat) (v : Value) (g : Nat) (lb : Array Value) (p : Bool) (hc : ∀ w', Ext W w' → w'.cell? ⟨b, 0, none⟩ = some v) (eg : Enters Tryz.prog g) (hp : ∀ w', Ext W w' → Calls Tryz.prog g (#[v] ++ lb) w' fun e w'' => e = .returned (.bool p) ∧ Ext w' w'') :
    Calls Tryz.prog 48 #[.slice (some ⟨b,0,none⟩) 1 1,.func (.func g) #[] lb] W fun e w'=>e=.returned (.bool p)∧Ext W w':=by
 have h:=has_Ints W (some ⟨b,0,none⟩) b 0 1 1 (fun _=>v) g lb (fun _=>p) (by decide) (fun _=>rfl) (fun w' x i hi=>by
  have e:i=0:=by omega
  subst e;exact hc w' x) eg (fun i _ w' x=>hp w' x)
 have e:anyB (fun _=>p) 1=p:=by simp [anyB]
 rw [e] at h;exact h
set_option maxHeartbeats 1000000 in
theorem csz_any (w : World) (T : TM) (hT : T.At w) (a : Option Addr) (n cap b : Nat) (hO : OneAt w b (.slice a n cap)) :
    Calls Tryz.prog 189 #[T.val,.slice (some ⟨b,0,none⟩) 1 1] w (BoolPost (T.toTr.Valid∧n=T.n) w):=by
 have HVa:=Lib.hid (fun W (h:Ext w W)=>valid_any W T (hT.ext h))
 have HIN:=Lib.hid (fun W (h:Ext w W) lb p hp=>has_one W b (.slice a n cap) 234 lb p (fun w' x=>hO.c w' (h.trans x)) (enters_of Tryz.func234 (by kernel_rfl) rfl) hp)
 simp only [TM.val] at HVa ⊢
 clear hT hO
 go_enter Tryz.func189,Tryz.ntmps189
 go_upto_region 1 with fail
 refine boxed1 (w:=w) (G:=fun x=>Code.wp _ _ _ _ x) ?_
 intro w1 hx1 hs1 ⟨l0,c0,_,_⟩
 have hx11:Ext w1 w1:=Ext.refl _
 clear hs1
 go_wp2_with fail
 go_at_call 34
 refine (HVa.out w1 hx1).mono ?_
 rintro e w2 ⟨bv,rfl,hbv,hx2⟩
 have hxw2:=hx1.trans hx2
 have HB:=Lib.hid hbv
 clear hbv
 cases bv with
 | false =>
  go_wp2_with fail
  go_ret
  exact ⟨false,rfl,⟨fun h=>(by cases h),fun h=>absurd (HB.out.2 h.1) (by decide)⟩,hxw2⟩
 | true =>
  have hin:=HIN.out w2 hxw2 #[.pointer (some ⟨w.heap.size,0,none⟩)] (decide (n≠T.n)) (fun w' x=>csz1_any w' a n cap T.n _ T.a T.cap (by exact c0 w' (hx2.trans x) 0))
  go_wp2_with fail
  go_at_call 48
  refine hin.mono ?_
  rintro e w3 ⟨rfl,hx3⟩
  have hxw3:=hxw2.trans hx3
  clear hin
  go_wp2_with fail
  go_ret
  refine ⟨decide (n=T.n),ret_bool (by simp),⟨fun h=>⟨HB.out.1 (by first | rfl | trivial),of_decide_eq_true h⟩,fun h=>decide_eq_true h.2⟩,hxw3⟩
def Tr.GivC (T:Tr) (n:Nat) (v:Nat→Int) (c:Int):Prop:=
 (¬(T.Valid∧n=T.n)∧c=1)∨((T.Valid∧n=T.n)∧¬T.InR T.n v∧c=2)∨((T.Valid∧n=T.n)∧T.InR T.n v∧¬T.ClC v∧c=18)∨(((T.Valid∧n=T.n)∧T.InR T.n v∧T.ClC v)∧c=0)
def Tr.IsCut (T:Tr) (n:Nat) (v:Nat→Int):Prop:=(T.Valid∧n=T.n)∧T.InR T.n v∧T.ClC v
theorem Tr.GivC.zero {T:Tr} {n:Nat} {v:Nat→Int} {c:Int} (h:T.GivC n v c):c=0↔T.IsCut n v:=by
 rcases h with ⟨h,rfl⟩ | ⟨_,h,rfl⟩ | ⟨_,_,h,rfl⟩ | ⟨h,rfl⟩
 ·exact ⟨fun h=>(by cases h),fun k=>absurd k.1 h⟩
 ·exact ⟨fun h=>(by cases h),fun k=>absurd k.2.1 h⟩
 ·exact ⟨fun h=>(by cases h),fun k=>absurd k.2.2 h⟩
 ·exact ⟨fun _=>h,fun _=>rfl⟩
def GivPost (T:Tr) (n:Nat) (v:Nat→Int) (w:World) (e:Ending) (w':World):Prop:=Ext w w'∧∃ c:Int,T.GivC n v c∧e=.returned (.int .i64 c)
set_option maxHeartbeats 2000000 in
theorem cgiv_any (w : World) (T : TM) (hT : T.At w) (a : Option Addr) (n cap b g o : Nat) (v : Nat → Int) (hC : NumAt w n a g o v) (hO : OneAt w b (.slice a n cap)) :
    Calls Tryz.prog 139 #[T.val,.slice (some ⟨b,0,none⟩) 1 1,.slice none 0 0] w (GivPost T.toTr n v w):=by
 have HSZ:=Lib.hid (fun W (h:Ext w W)=>csz_any W T (hT.ext h) a n cap b ⟨fun w' x=>hO.c w' (h.trans x),fun w' x=>hO.l w' (h.trans x)⟩)
 have HIN:=Lib.hid (fun W (h:Ext w W) (hn:n=T.n)=>cin_any W T (hT.ext h) a g o n cap v (hC.ext h) hn)
 have HCL:=Lib.hid (fun W (h:Ext w W) (hn:n=T.n) (hV:T.toTr.Valid) (hR:T.toTr.InR T.n v)=>(show Calls Tryz.prog 192 #[T.val,.slice a n cap] W (BoolPost (T.toTr.ClC v) W) from by
  subst hn;exact cclosed_any W T (hT.ext h) hV a g o cap v (hC.ext h) hR))
 have hc:=hO.c
 have hl:=hO.l
 unfold GivPost
 simp only [TM.val] at HSZ HIN HCL ⊢
 clear hT hO hC
 go_enter Tryz.func139,Tryz.ntmps139
 go_upto_region 1 with fail
 refine boxed1 (w:=w) (G:=fun x=>Code.wp _ _ _ _ x) ?_
 intro w1 hx1 hs1 ⟨l0,c0,_,_⟩
 have hx11:Ext w1 w1:=Ext.refl _
 clear hs1
 go_wp2_with fail
 go_at_call 189
 refine (HSZ.out w1 hx1).mono ?_
 rintro e w2 ⟨bv,rfl,hbv,hx2⟩
 have hxw2:=hx1.trans hx2
 have HB:=Lib.hid hbv
 clear hbv
 cases bv with
 | false =>
  go_wp2_with fail
  go_ret
  exact ⟨hxw2,1,.inl ⟨fun h=>absurd (HB.out.2 h) (by decide),rfl⟩,rfl⟩
 | true =>
 have HVN:=Lib.hid (HB.out.1 (by first | rfl | trivial))
 go_wp2_with fail
 go_loopg [19] 1 (fun gg v19 wr=>∃ k:Nat,k≤1∧gg=1 - k∧v19=.int .i64 k∧Ext w1 wr∧(k=1→T.toTr.InR T.n v))
 case atStart=>exact ⟨0,by omega,rfl,rfl,hx2,fun h=>by omega⟩
 case round=>
  obtain ⟨k,hk,rfl,rfl,hxr,hin⟩:=hrel
  have HI:=Lib.hid hin
  have hxw:=hx1.trans hxr
  clear hin hxw2 hx2
  rcases (show k=0∨k=1 by omega) with rfl | rfl
  ·have hin:=HIN.out wr hxw HVN.out.2
   go_wp2_with fail
   go_at_call 190
   refine hin.mono ?_
   rintro e w3 ⟨bi,rfl,hbi,hx3⟩
   have hxw3:=hxw.trans hx3
   have hx13:=hxr.trans hx3
   have HBI:=Lib.hid hbi
   clear hbi hin
   cases bi with
   | false =>
    go_wp2_with fail
    go_ret
    exact ⟨hxw3,2,.inr (.inl ⟨HVN.out,fun h=>absurd (HBI.out.2 h) (by decide),rfl⟩),rfl⟩
   | true =>
    go_wp2_with fail
    go_roundg (0:Nat)
    case rel=>exact ⟨1,by omega,rfl,rfl,hx13,fun _=>HBI.out.1 (by first | rfl | trivial)⟩
    case measure=>omega
  ·have HIR:=Lib.hid (HI.out rfl)
   go_wp2_with fail
   go_loopg [30] 0 (fun gg v30 wr=>gg=0∧v30=.int .i64 0∧Ext w1 wr)
   case atStart=>exact ⟨rfl,rfl,hxr⟩
   case round=>
    obtain ⟨rfl,rfl,hxr⟩:=hrel
    have hxw:=hx1.trans hxr
    go_wp2_with fail
    go_loopg [41] 1 (fun gg v41 wr=>∃ k:Nat,k≤1∧gg=1 - k∧v41=.int .i64 k∧Ext w1 wr∧(k=1→T.toTr.ClC v))
    case atStart=>exact ⟨0,by omega,rfl,rfl,hxr,fun h=>by omega⟩
    case round=>
     obtain ⟨k,hk,rfl,rfl,hxr,hin⟩:=hrel
     have HI2:=Lib.hid hin
     have hxw:=hx1.trans hxr
     clear hin
     rcases (show k=0∨k=1 by omega) with rfl | rfl
     ·have hin:=HCL.out wr hxw HVN.out.2 HVN.out.1 HIR.out
      go_wp2_with fail
      go_at_call 192
      refine hin.mono ?_
      rintro e w3 ⟨bi,rfl,hbi,hx3⟩
      have hxw3:=hxw.trans hx3
      have hx13:=hxr.trans hx3
      have HBI:=Lib.hid hbi
      clear hbi hin
      cases bi with
      | false =>
       go_wp2_with fail
       go_ret
       exact ⟨hxw3,18,.inr (.inr (.inl ⟨HVN.out,HIR.out,fun h=>absurd (HBI.out.2 h) (by decide),rfl⟩)),rfl⟩
      | true =>
       go_wp2_with fail
       go_roundg (0:Nat)
       case rel=>exact ⟨1,by omega,rfl,rfl,hx13,fun _=>HBI.out.1 (by first | rfl | trivial)⟩
       case measure=>omega
     ·go_wp2_with fail
      go_ret
      exact ⟨hxw,0,.inr (.inr (.inr ⟨⟨HVN.out,HIR.out,HI2.out (by first | rfl | trivial)⟩,rfl⟩)),rfl⟩
set_option maxHeartbeats 1000000 in
theorem ccon_any (w : World) (T : TM) (hT : T.At w) (a : Option Addr) (n cap g o : Nat) (v : Nat → Int) (hC : NumAt w n a g o v) :
    Calls Tryz.prog 87 #[T.val,.slice a n cap] w (BoolPost (T.toTr.IsCut n v) w):=by
 have HG:=Lib.hid (fun W b (h:Ext w W) hO=>cgiv_any W T (hT.ext h) a n cap b g o v (hC.ext h) hO)
 simp only [TM.val] at HG ⊢
 clear hT hC
 go_enter Tryz.func87,Tryz.ntmps87
 go_upto_region 1 with fail
 refine boxed1 (w:=w) (G:=fun x=>Code.wp _ _ _ _ x) ?_
 intro w1 hx1 hs1 ⟨l0,c0,_,_⟩
 have hx11:Ext w1 w1:=Ext.refl _
 clear hs1
 go_wp2_with fail
 go_at_call 139
 have hb:=Box.of (w:=w1.alloc (.cells #[.slice a n cap] 27)) (b:=w1.heap.size) (c:=#[.slice a n cap]) (t:=27) (by show (w1.heap.push _)[w1.heap.size]?=_;simp)
 refine (HG.out _ w1.heap.size (hx1.alloc' _) ⟨fun w' x=>hb.cell w' x 0,fun w' x=>hb.lt w' x⟩).mono ?_
 rintro e w3 ⟨hx3,c,hc,rfl⟩
 have hxw3:=(hx1.alloc' (.cells #[.slice a n cap] 27)).trans hx3
 have HZ:=Lib.hid hc.zero
 clear hc hb
 go_wp2_with fail
 go_ret
 refine ⟨decide (c=0),ret_bool ?_,⟨fun h=>HZ.out.1 (of_decide_eq_true h),fun h=>decide_eq_true (HZ.out.2 h)⟩,hxw3⟩
 by_cases e:c=0
 ·subst e;rfl
 ·simp [e]
end Go.Proofs.YtlfdfkbmollaaaaGreatDoor

namespace Go.Proofs.YtlfdfkbmollaaaaGreatDoor
open Go.RowKit Go.Shelf
def EqL (n m:Nat) (u v:Nat→Int):Prop:=n=m∧∀ i,i<n→u i=v i
set_option maxHeartbeats 1000000 in
theorem eqi_any (w : World) (a1 a2 : Option Addr) (g1 o1 g2 o2 n m c1 c2 : Nat) (u v : Nat → Int) (h1 : NumAt w n a1 g1 o1 u) (h2 : NumAt w m a2 g2 o2 v) :
    Calls Tryz.prog 30 #[.slice a1 n c1,.slice a2 m c2] w (BoolPost (EqL n m u v) w):=by
 have hn1:=h1.hn
 have hn2:=h2.hn
 have H1:=Lib.hid h1
 have H2:=Lib.hid h2
 have hww:Ext w w:=Ext.refl _
 clear h1 h2
 go_enter Tryz.func30,Tryz.ntmps30
 by_cases hnm:n=m
 ·subst hnm
  have d0:((n:Int) == (n:Int))=true:=by simp
  go_wp2_with fail
  go_loopg [13] n (fun gg v13 wr=>∃ k:Nat,k≤n∧gg=n - k∧v13=.int .i64 k∧Ext w wr∧∀ i,i<k→u i=v i)
  case atStart=>exact ⟨0,by omega,rfl,rfl,hww,fun i h=>by omega⟩
  case round=>
   obtain ⟨k,hk,rfl,rfl,hxr,hall⟩:=hrel
   have HA:=Lib.hid hall
   clear hall
   by_cases hlt:k<n
   ·have hlt':(k:Int)<(n:Int):=by omega
    obtain rfl:=H1.out.pa (by omega)
    obtain rfl:=H2.out.pa (by omega)
    have pb1:∀ w',Ext w w'→g1<w'.heap.size:=fun w' x=>Nat.lt_of_lt_of_le (H1.out.pb (by omega)) x.le
    have pb2:∀ w',Ext w w'→g2<w'.heap.size:=fun w' x=>Nat.lt_of_lt_of_le (H2.out.pb (by omega)) x.le
    obtain ⟨x,hx⟩:∃ x,x=u k:=⟨_,rfl⟩
    obtain ⟨y,hy⟩:∃ y,y=v k:=⟨_,rfl⟩
    have p1:∀ w',Ext w w'→w'.cell? ⟨g1,o1+k,none⟩=some (.int .i64 x):=fun w' h=>by rw [hx];exact h.cell (H1.out.c k hlt)
    have q1:∀ w',Ext w w'→w'.cell? ⟨g2,o2+k,none⟩=some (.int .i64 y):=fun w' h=>by rw [hy];exact h.cell (H2.out.c k hlt)
    have HX:=Lib.hid (And.intro hx hy)
    clear hx hy
    by_cases e:x=y
    ·subst e
     have d1:(x == x)=true:=by simp
     go_upto_region 6 with fail
     go_quiet (fail)
     have hq:=hxr.drewN nq
     go_wp2_with fail
     go_roundg (n - (k+1))
     case rel=>exact ⟨k+1,by omega,rfl,by go_num,hq,fun i hi=>by
      by_cases e:i=k
      ·subst e;rw [←HX.out.1,←HX.out.2]
      ·exact HA.out i (by omega)⟩
     case measure=>omega
    ·have d1:(x == y)=false:=by simpa using e
     go_upto_region 6 with fail
     go_quiet (fail)
     have hq:=hxr.drewN nq
     go_wp2_with fail
     go_ret
     exact ⟨false,rfl,⟨fun h=>(by cases h),fun h=>absurd (h.2 k hlt) (by rw [←HX.out.1,←HX.out.2];exact e)⟩,hq⟩
   ·obtain rfl:k=n:=by omega
    go_wp2_with fail
    go_ret
    exact ⟨true,rfl,⟨fun _=>⟨rfl,HA.out⟩,fun _=>rfl⟩,hxr⟩
 ·have d0:((n:Int) == (m:Int))=false:=by simpa using fun h:(n:Int)=m=>hnm (by omega)
  have d0':(n == m)=false:=by simpa using hnm
  go_wp2_with fail
  go_ret
  exact ⟨false,rfl,⟨fun h=>(by cases h),fun h=>absurd h.1 hnm⟩,hww⟩
end Go.Proofs.YtlfdfkbmollaaaaGreatDoor
