/- Contracts and laws in plain Lean for RApp: group P88. -/
import Derived.Test.YtmhapcnlpoilpaaGreatDoorP18
import Derived.Test.YtmhapcnlpoilpaaGreatDoorP20
import Derived.Test.YtmhapcnlpoilpaaGreatDoorP02
import Derived.Laws.EntriesVeiled
set_option maxRecDepth 100000
namespace Go.Proofs.YtmhapcnlpoilpaaGreatDoor
open Go.ChangeShapes Go.WideShapes Go.RowKit Go.Deep
structure M3D where
 s:SlD
 m:Nat→MM
instance:Inhabited MM:=⟨⟨⟨0,fun _=>0,fun _ _=>0⟩,none,0,0,0,fun _=>none,fun _=>0,fun _=>0,fun _=>0⟩⟩
instance:Inhabited M3D:=⟨⟨default,fun _=>default⟩⟩
structure MmOk (M:MM) (w:World):Prop where
 at':M.At w
 ok:∀ k i,k<M.n→i<M.rn k→okI (M.val k i)
 cap:M.n≤M.cap
 caps:∀ k,k<M.n→M.rn k≤M.rc k
structure M3D.At (d:M3D) (w:World):Prop where
 s:d.s.At w
 c:∀ i,i<d.s.n→w.cell? ⟨d.s.b,d.s.o+i,none⟩=some (d.m i).v∧MmOk (d.m i) w
structure SlcD where
 em:Bool
 f:IntD
 l:IntD
 j:M3D
instance:Inhabited SlcD:=⟨⟨false,default,default,default⟩⟩
structure SlcD.At (d:SlcD) (w:World):Prop where
 f:d.f.At w
 l:d.l.At w
 j:d.j.At w
abbrev SlcD.cells (d:SlcD):List Value:=[.bool d.em,d.f.s.v,d.l.s.v,d.j.s.v]
abbrev SlcD.val (d:SlcD):Value:=.agg #[.bool d.em,d.f.s.v,d.l.s.v,d.j.s.v]
theorem cellsOf_slc:Tryz.prog.cellsOf 62=4:=by kernel_rfl
theorem cellsOf_mm:Tryz.prog.cellsOf 28=1:=by kernel_rfl
theorem bytesOf_mm:Tryz.prog.bytesOf 28=24:=by kernel_rfl
section
variable {H:Type} {enc:TypeId × Value→H} {w:World} {base:Nat} {held:Bool} {fuel:Nat} {cs:List Value} {x:DataW H × List MemPlace}
theorem open_m3 (h:DataW.trod enc Tryz.prog w base (fun _=>true) held fuel 60 cs=some x) (hs:Small Tryz.prog 60 x.1):∃ d:M3D,cs=[d.s.v]∧d.At w:=by
 obtain ⟨a,b,off,len,cap,h1,h2,h3,h4,h5⟩:=open_any Tryz.underlying60 (by rw [cellsOf_mm];decide) h hs
 rw [bytesOf_mm] at h3
 have f0:=choose_lt (p:=fun i (y:MM)=>w.cell? ⟨b,off+i,none⟩=some y.v∧MmOk y w) fun i hi=>by
  obtain ⟨cs',n,y,q0,q1,q2,q3⟩:=h5 i hi
  obtain ⟨z,e,hz1,hz2,hz3,hz4⟩:=open_mm q2 q3
  subst e
  have:=q1 0 (by rw [cellsOf_mm];decide)
  rw [cellsOf_mm] at this
  simp only [Nat.mul_one,Nat.add_zero] at this
  exact ⟨z,this,hz1,hz2,hz3,hz4⟩
 obtain ⟨f0,g0⟩:=f0
 exact ⟨⟨⟨a,len,cap,b,off⟩,f0⟩,h1,⟨SlD.of h2 h3 (by decide) h4,g0⟩⟩
theorem list4 {l:List Value} {a b c d:Value} (h:l.length=4) (h0:l[0]?=some a) (h1:l[1]?=some b) (h2:l[2]?=some c) (h3:l[3]?=some d):l=[a,b,c,d]:=by
 match l,h with
 | [_,_,_,_],_ => simp at h0 h1 h2 h3;subst h0 h1 h2 h3;rfl
theorem open_slc (h:DataW.trod enc Tryz.prog w base (fun _=>true) held fuel 62 cs=some x) (hs:Small Tryz.prog 62 x.1):∃ d:SlcD,cs=d.cells∧d.At w:=by
 obtain ⟨_,_,_,_,hlen,_,_⟩:=DataW.trod_struct Tryz.underlying62 h
 rw [cellsOf_slc] at hlen
 obtain ⟨v0,n0,y0,a0,b0,c0⟩:=open_fields Tryz.underlying62 (by kernel_rfl) cellsOf_slc h hs 0 _ rfl
 obtain ⟨v1,n1,y1,a1,b1,c1⟩:=open_fields Tryz.underlying62 (by kernel_rfl) cellsOf_slc h hs 1 _ rfl
 obtain ⟨v2,n2,y2,a2,b2,c2⟩:=open_fields Tryz.underlying62 (by kernel_rfl) cellsOf_slc h hs 2 _ rfl
 obtain ⟨v3,n3,y3,a3,b3,c3⟩:=open_fields Tryz.underlying62 (by kernel_rfl) cellsOf_slc h hs 3 _ rfl
 obtain ⟨z0,e0,_⟩:=DataW.trod_bool Tryz.underlying4 b0
 obtain ⟨z1,e1,o1⟩:=open_nums b1 c1
 obtain ⟨z2,e2,o2⟩:=open_nums b2 c2
 obtain ⟨z3,e3,o3⟩:=open_m3 b3 c3
 simp only [List.cons.injEq,and_true] at e0 e1 e2 e3
 subst e0 e1 e2 e3
 exact ⟨⟨z0,z1,z2,z3⟩,list4 hlen a0 a1 a2 a3,⟨o1,o2,o3⟩⟩
end
section
variable {H:Type} {enc:TypeId × Value→H} {W:World}
theorem arg_slc {r:Reach} {b0:Nat} {v:Value} {d:DataW H} {p:List MemPlace} (hv:Value.okWide Tryz.prog W r b0 62 v) (h:DataW.Trod enc Tryz.prog W 0 (fun _=>true) true 62 v d p) (hs:Small Tryz.prog 62 d):∃ D:SlcD,v=D.val∧D.At W:=by
 obtain ⟨cs,rfl,_⟩:=okWide_struct Tryz.underlying62 hv
 obtain ⟨fuel,hf⟩:=h
 obtain ⟨D,e,hD⟩:=open_slc (x:=(d,p)) hf hs
 refine ⟨D,?_,hD⟩
 obtain ⟨l⟩:=cs
 have e:l=D.cells:=by simpa [Value.cells] using e
 rw [e]
end
theorem MmOk.ext {M:MM} {w w':World} (h:MmOk M w) (x:Ext w w'):MmOk M w':=⟨h.at'.ext x,h.ok,h.cap,h.caps⟩
theorem SlD.At.ext {s:SlD} {w w':World} (h:s.At w) (x:Ext w w'):s.At w':=⟨h.hn,h.hc,h.ha,fun h0=>Nat.lt_of_lt_of_le (h.hb h0) x.le⟩
theorem IntD.At.ext3 {d:IntD} {w w':World} (h:d.At w) (x:Ext w w'):d.At w':=⟨h.s.ext x,fun i hi=>⟨x.cell (h.c i hi).1,(h.c i hi).2⟩⟩
theorem M3D.At.ext {d:M3D} {w w':World} (h:d.At w) (x:Ext w w'):d.At w':=⟨h.s.ext x,fun i hi=>⟨x.cell (h.c i hi).1,(h.c i hi).2.ext x⟩⟩
theorem SlcD.At.ext {d:SlcD} {w w':World} (h:d.At w) (x:Ext w w'):d.At w':=⟨h.f.ext3 x,h.l.ext3 x,h.j.ext x⟩
end Go.Proofs.YtmhapcnlpoilpaaGreatDoor

namespace Go.Proofs.YtmhapcnlpoilpaaGreatDoor
open Go.RowKit Go.Shelf
theorem idx_IntsS (w : World) (a : Option Addr) (b off n cap : Nat) (c0 : Nat → Value) (g : Nat) (lb : Array Value) (p : Nat → Bool)
    (hn:n≤140737488355328) (ha:0<n→a=some ⟨b,off,none⟩)
    (l0:∀ w',Ext w w'→∀ i,i<n→w'.cell? ⟨b,off+i,none⟩=some (c0 i))
    (eg:Enters Tryz.prog g)
    (hp:∀ i,i<n→∀ w',Ext w w'→Calls Tryz.prog g (#[c0 i]++lb) w' fun e w''=>e=.returned (.bool (p i))∧Ext w' w'') :
    Calls Tryz.prog 109 #[.slice a n cap,.func (.func g) #[] lb] w fun e w'=>e=.returned (.int .i64 (idxI p n))∧Ext w w':=by
 have HP:=Lib.hid hp
 clear hp
 go_enter Tryz.func109,Tryz.ntmps109
 go_wp2
 go_loopw [8] (fun v wr=>∃ k:Nat,k≤n∧v=.int .i64 k∧Ext w wr∧NoneB p k) (fun v _=>n - (intOf v).toNat)
 case atStart=>exact ⟨0,Nat.zero_le _,rfl,Ext.refl _,NoneB.zero _⟩
 case round=>
  obtain ⟨k,hk,rfl,hx,hN⟩:=hrel
  have HN:=Lib.hid hN
  clear hN
  by_cases hlt:k<n
  ·obtain rfl:=ha (by omega)
   have hc:=HP.out k hlt wr hx
   unfold Enters at eg
   cases hq:p k with
   | true =>
    rw [hq] at hc
    go_wp2_with (go_at_fn g;refine hc.mono ?_;rintro e w' ⟨rfl,hx'⟩)
    go_ret
    exact ⟨ret_int (idxI_hit hlt hq HN.out).symm,hx.trans hx'⟩
   | false =>
    rw [hq] at hc
    go_wp2_with (go_at_fn g;refine hc.mono ?_;rintro e w' ⟨rfl,hx'⟩)
    go_roundw
    case rel=>exact ⟨k+1,by omega,by go_num,hx.trans hx',HN.out.succ hq⟩
    case measure=>simp [intOf];omega
  ·have HN':=Lib.hid (show NoneB p n from fun i hi=>HN.out i (by omega))
   go_wp2
   go_ret
   exact ⟨ret_int (idxI_none HN'.out).symm,hx⟩
theorem has_IntsS (w : World) (a : Option Addr) (b off n cap : Nat) (c0 : Nat → Value) (g : Nat) (lb : Array Value) (p : Nat → Bool)
    (hn:n≤140737488355328) (ha:0<n→a=some ⟨b,off,none⟩)
    (l0:∀ w',Ext w w'→∀ i,i<n→w'.cell? ⟨b,off+i,none⟩=some (c0 i))
    (eg:Enters Tryz.prog g)
    (hp:∀ i,i<n→∀ w',Ext w w'→Calls Tryz.prog g (#[c0 i]++lb) w' fun e w''=>e=.returned (.bool (p i))∧Ext w' w'') :
    Calls Tryz.prog 59 #[.slice a n cap,.func (.func g) #[] lb] w fun e w'=>e=.returned (.bool (anyB p n))∧Ext w w':=by
 have hc:=idx_IntsS w a b off n cap c0 g lb p hn ha l0 eg hp
 have HI:=Lib.hid (idxI_anyB p n)
 clear hp l0 ha eg
 go_enter Tryz.func59,Tryz.ntmps59
 go_wp2_with (go_at_call 109;refine hc.mono ?_;rintro e w' ⟨rfl,hx'⟩)
 go_ret
 exact ⟨ret_bool HI.out,hx'⟩
def MM.Few (M:MM):Prop:=M.n≤70∧∀ k,k<M.n→M.rn k≤12
def SlcD.Few (d:SlcD):Prop:=d.f.s.n≤12∧d.l.s.n≤12∧d.j.s.n≤12∧∀ p,p<d.j.s.n→(d.j.m p).Few
set_option maxHeartbeats 400000 in
theorem few1_any (w : World) (a : Option Addr) (n cap : Nat) :
    Calls Tryz.prog 58 #[.slice a n cap] w fun r w'=>r=.returned (.bool (decide (12<n)))∧Ext w w':=by
 go_enter Tryz.func58,Tryz.ntmps58
 go_wp2
 go_ret
 exact ⟨ret_bool (by simp;omega),Ext.refl _⟩
def fewB (M:MM):Bool:=decide (70<M.n) || anyB (fun k=>decide (12<M.rn k)) M.n
theorem fewB_iff {M:MM}:fewB M=false↔M.Few:=by
 unfold fewB MM.Few
 rw [Bool.or_eq_false_iff,decide_eq_false_iff_not,Nat.not_lt,←Bool.not_eq_true,anyB_iff]
 refine and_congr Iff.rfl ⟨fun h k hk=>?_,fun h ⟨k,hk,e⟩=>?_⟩
 ·exact Nat.not_lt.1 fun hl=>h ⟨k,hk,decide_eq_true hl⟩
 ·exact absurd (of_decide_eq_true e) (Nat.not_lt.2 (h k hk))
set_option maxHeartbeats 1000000 in
theorem few2_any (w : World) (M : MM) (hM : M.At w) (lg : Nat) (cl : ∀ w', Ext w w' → w'.cell? ⟨lg, 0, none⟩ = some (.func (.func 58) #[] #[])) :
    Calls Tryz.prog 60 #[M.v,.pointer (some ⟨lg,0,none⟩)] w fun r w'=>r=.returned (.bool (fewB M))∧Ext w w':=by
 have hI:=has_Ints w M.a M.b M.off M.n M.cap (fun k=>.slice (M.ra k) (M.rn k) (M.rc k)) 58 #[] (fun k=>decide (12<M.rn k)) hM.hn hM.pa (fun w' x k hk=>hM.p0 w' x k hk)
  (enters_of Tryz.func58 (by kernel_rfl) rfl) (fun i hi w' x=>few1_any w' _ _ _)
 obtain ⟨b,hb⟩:∃ b,b=anyB (fun k=>decide (12<M.rn k)) M.n:=⟨_,rfl⟩
 have hF:fewB M=(decide (70<M.n) || b):=by rw [hb];rfl
 rw [←hb] at hI
 rw [hF]
 have hww:=Ext.refl w
 have hn:=hM.hn
 clear hM hb hF
 go_enter Tryz.func60,Tryz.ntmps60
 by_cases h:70<M.n
 ·have d1:decide ((70:Int)<(M.n:Int))=true:=decide_eq_true (by omega)
  have d1':decide (70<M.n)=true:=decide_eq_true h
  go_wp2_with fail
  go_ret
  exact ⟨by rw [d1'];rfl,hww⟩
 ·have d1:decide ((70:Int)<(M.n:Int))=false:=decide_eq_false (by omega)
  have d1':decide (70<M.n)=false:=decide_eq_false h
  go_wp2_with fail
  go_at_call 61
  refine hI.mono ?_
  rintro e w2 ⟨rfl,hx2⟩
  go_wp2_with fail
  go_ret
  exact ⟨by rw [d1'];first | rfl | simp,hx2⟩
set_option maxHeartbeats 2000000 in
theorem sfew_any (w:World) (S:SlcD) (hS:S.At w):Calls Tryz.prog 26 #[S.val] w (BoolPost S.Few w):=by
 have hn1:=hS.f.s.hn
 have hn2:=hS.l.s.hn
 have hn3:=hS.j.s.hn
 have HS:=Lib.hid hS
 have eg:Enters Tryz.prog 58:=enters_of Tryz.func58 (by kernel_rfl) rfl
 have HEG:=Lib.hid eg
 unfold Enters at eg
 clear hS
 go_enter Tryz.func26,Tryz.ntmps26
 go_upto_region 1 with fail
 refine boxed1 (w:=w) (G:=fun x=>Code.wp _ _ _ _ x) ?_
 intro w1 hx1 hs1 ⟨l0,c0,_,_⟩
 have hx11:Ext w1 w1:=Ext.refl _
 clear hs1
 go_upto_region 2 with fail
 refine boxed1 (w:=w1) (G:=fun x=>Code.wp _ _ _ _ x) ?_
 intro w2 hx2 hs2 ⟨l2,c2,_,_⟩
 have hx22:Ext w2 w2:=Ext.refl _
 have hx12:=hx2
 have hxw2:=hx1.trans hx2
 clear hs2
 have CL:=Lib.hid (show ∀ w',Ext w2 w'→w'.cell? ⟨w1.heap.size,0,none⟩=some (.func (.func 58) #[] #[]) from fun w' x=>(c2 w' x 0).trans rfl)
 generalize w1.heap.size=lg at l2 c2 CL ⊢
 go_wp2_with fail
 go_at_fn 58
 refine (few1_any w2 _ _ _).mono ?_
 rintro e w3 ⟨rfl,hx23⟩
 have hxw3:=hxw2.trans hx23
 cases hA:decide (12<S.f.s.n) with
 | true =>
  go_wp2_with fail
  go_ret
  exact ⟨false,rfl,⟨fun h=>(by cases h),fun h=>absurd h.1 (by have:=of_decide_eq_true hA;omega)⟩,hxw3⟩
 | false =>
  have HA:=Lib.hid (show S.f.s.n≤12 from by have:=of_decide_eq_false hA;omega)
  clear hA
  have hx13:=hx12.trans hx23
  go_wp2_with fail
  go_at_fn 58
  refine (few1_any w3 _ _ _).mono ?_
  rintro e w4 ⟨rfl,hx34⟩
  have hxw4:=hxw3.trans hx34
  have hx24:=hx23.trans hx34
  have hx14:=hx13.trans hx34
  cases hA:decide (12<S.l.s.n) with
  | true =>
   go_wp2_with fail
   go_ret
   exact ⟨false,rfl,⟨fun h=>(by cases h),fun h=>absurd h.2.1 (by have:=of_decide_eq_true hA;omega)⟩,hxw4⟩
  | false =>
   have HB:=Lib.hid (show S.l.s.n≤12 from by have:=of_decide_eq_false hA;omega)
   clear hA
   by_cases hC:S.j.s.n≤12
   ·have hC1:decide (S.j.s.n≤12)=true:=decide_eq_true hC
    have hC2:decide ((S.j.s.n:Int)≤12)=true:=decide_eq_true (by omega)
    have HC:=Lib.hid hC
    have hI:=has_IntsS w4 S.j.s.a S.j.s.b S.j.s.o S.j.s.n S.j.s.c (fun k=>(S.j.m k).v) 60 #[.pointer (some ⟨lg,0,none⟩)] (fun k=>fewB (S.j.m k)) hn3 HS.out.j.s.ha (fun w' x k hk=>(hxw4.trans x).cell (HS.out.j.c k hk).1)
     (enters_of Tryz.func60 (by kernel_rfl) rfl) (fun i hi w' x=>few2_any w' (S.j.m i) ((HS.out.j.c i hi).2.at'.ext (hxw4.trans x)) lg (fun w'' y=>CL.out w'' ((hx24.trans x).trans y)))
    obtain ⟨b,hb⟩:∃ b,b=anyB (fun k=>fewB (S.j.m k)) S.j.s.n:=⟨_,rfl⟩
    rw [←hb] at hI
    have HBB:=Lib.hid hb
    clear hb hC
    go_wp2_with fail
    go_at_call 59
    refine hI.mono ?_
    rintro e w5 ⟨rfl,hx5⟩
    clear hI
    go_wp2_with fail
    go_ret
    refine ⟨!b,by first | rfl | simp,?_,hxw4.trans hx5⟩
    rw [Bool.not_eq_true',HBB.out,anyB_false_iff]
    exact ⟨fun h=>⟨HA.out,HB.out,HC.out,fun p hp=>fewB_iff.1 (h p hp)⟩,fun h i hi=>fewB_iff.2 (h.2.2.2 i hi)⟩
   ·have hC1:decide (S.j.s.n≤12)=false:=decide_eq_false hC
    have hC2:decide ((S.j.s.n:Int)≤12)=false:=decide_eq_false (by omega)
    have HC:=Lib.hid hC
    clear hC
    go_wp2_with fail
    go_ret
    exact ⟨false,rfl,⟨fun h=>(by cases h),fun h=>absurd h.2.2.1 HC.out⟩,hxw4⟩
theorem MM.At.num {M:MM} {w:World} (h:M.At w) {k:Nat} (hk:k<M.n):NumAt w (M.rn k) (M.ra k) (M.rb k) (M.ro k) (M.val k):=
 ⟨h.hr k hk,h.ra k hk,fun h0=>h.rb k hk h0 w (Ext.refl w),fun i hi=>h.r0 w (Ext.refl w) k i hk hi⟩
theorem IntD.At.num {d:IntD} {w:World} (h:d.At w):NumAt w d.s.n d.s.a d.s.b d.s.o d.z:=⟨h.s.hn,h.s.ha,h.s.hb,fun k hk=>(h.c k hk).1⟩
def LeqL (n m:Nat) (u v:Nat→Int):Prop:=n=m∧∀ i,i<n→u i≤v i
set_option maxHeartbeats 1000000 in
theorem cleq_any (w : World) (a1 a2 : Option Addr) (g1 o1 g2 o2 n m c1 c2 : Nat) (u v : Nat → Int) (h1 : NumAt w n a1 g1 o1 u) (h2 : NumAt w m a2 g2 o2 v) :
    Calls Tryz.prog 120 #[.slice a1 n c1,.slice a2 m c2] w (BoolPost (LeqL n m u v) w):=by
 have hn1:=h1.hn
 have hn2:=h2.hn
 have H1:=Lib.hid h1
 have H2:=Lib.hid h2
 have hww:Ext w w:=Ext.refl _
 clear h1 h2
 go_enter Tryz.func120,Tryz.ntmps120
 by_cases hnm:n=m
 ·subst hnm
  have d0:((n:Int) != (n:Int))=false:=by simp
  go_wp2_with fail
  go_loopg [13] n (fun gg v13 wr=>∃ k:Nat,k≤n∧gg=n - k∧v13=.int .i64 k∧Ext w wr∧∀ i,i<k→u i≤v i)
  case atStart=>exact ⟨0,by omega,rfl,rfl,hww,fun i h=>by omega⟩
  case round=>
   obtain ⟨k,hk,rfl,rfl,hxr,hall⟩:=hrel
   have HA:=Lib.hid hall
   clear hall
   by_cases hlt:k<n
   ·have hlt':(k:Int)<(n:Int):=by omega
    obtain rfl:=H1.out.pa (by omega)
    obtain rfl:=H2.out.pa (by omega)
    have pb1:∀ w',Ext w w'→g1<w'.heap.size:=fun w' x=>Nat.lt_of_lt_of_le (H1.out.pb (by omega)) x.le
    have pb2:∀ w',Ext w w'→g2<w'.heap.size:=fun w' x=>Nat.lt_of_lt_of_le (H2.out.pb (by omega)) x.le
    obtain ⟨x,hx⟩:∃ x,x=u k:=⟨_,rfl⟩
    obtain ⟨y,hy⟩:∃ y,y=v k:=⟨_,rfl⟩
    have p1:∀ w',Ext w w'→w'.cell? ⟨g1,o1+k,none⟩=some (.int .i64 x):=fun w' h=>by rw [hx];exact h.cell (H1.out.c k hlt)
    have q1:∀ w',Ext w w'→w'.cell? ⟨g2,o2+k,none⟩=some (.int .i64 y):=fun w' h=>by rw [hy];exact h.cell (H2.out.c k hlt)
    have HX:=Lib.hid (And.intro hx hy)
    clear hx hy
    by_cases e:y<x
    ·have d1:decide (y<x)=true:=decide_eq_true e
     have HE:=Lib.hid e
     clear e
     go_upto_region 6 with fail
     go_quiet (fail)
     have hq:=hxr.drewN nq
     go_wp2_with fail
     go_ret
     exact ⟨false,rfl,⟨fun h=>(by cases h),fun h=>absurd (h.2 k hlt) (by rw [←HX.out.1,←HX.out.2];have:=HE.out;omega)⟩,hq⟩
    ·have d1:decide (y<x)=false:=decide_eq_false e
     have HE:=Lib.hid (show x≤y from by omega)
     clear e
     go_upto_region 6 with fail
     go_quiet (fail)
     have hq:=hxr.drewN nq
     go_wp2_with fail
     go_roundg (n - (k+1))
     case rel=>exact ⟨k+1,by omega,rfl,by go_num,hq,fun i hi=>by
      by_cases e:i=k
      ·subst e;rw [←HX.out.1,←HX.out.2];exact HE.out
      ·exact HA.out i (by omega)⟩
     case measure=>omega
   ·obtain rfl:k=n:=by omega
    go_wp2_with fail
    go_ret
    exact ⟨true,rfl,⟨fun _=>⟨by first | rfl | trivial,HA.out⟩,fun _=>rfl⟩,hxr⟩
 ·have d0:((n:Int) != (m:Int))=true:=by simp;omega
  go_wp2_with fail
  go_ret
  exact ⟨false,rfl,⟨fun h=>(by cases h),fun h=>absurd h.1 hnm⟩,hww⟩
set_option maxHeartbeats 1000000 in
theorem rleq_any (w : World) (a1 a2 : Option Addr) (g1 o1 g2 o2 n m c1 c2 : Nat) (u v : Nat → Int) (h1 : NumAt w n a1 g1 o1 u) (h2 : NumAt w m a2 g2 o2 v) :
    Calls Tryz.prog 72 #[.slice a1 n c1,.slice a2 m c2] w (BoolPost (LeqL n m u v) w):=by
 have hn1:=h1.hn
 have hn2:=h2.hn
 have H1:=Lib.hid h1
 have H2:=Lib.hid h2
 have hww:Ext w w:=Ext.refl _
 clear h1 h2
 go_enter Tryz.func72,Tryz.ntmps72
 by_cases hnm:n=m
 ·subst hnm
  have d0:((n:Int) != (n:Int))=false:=by simp
  go_wp2_with fail
  go_loopg [5] n (fun gg v13 wr=>∃ k:Nat,k≤n∧gg=n - k∧v13=.int .i64 k∧Ext w wr∧∀ i,i<k→u i≤v i)
  case atStart=>exact ⟨0,by omega,rfl,rfl,hww,fun i h=>by omega⟩
  case round=>
   obtain ⟨k,hk,rfl,rfl,hxr,hall⟩:=hrel
   have HA:=Lib.hid hall
   clear hall
   by_cases hlt:k<n
   ·have hlt':(k:Int)<(n:Int):=by omega
    obtain rfl:=H1.out.pa (by omega)
    obtain rfl:=H2.out.pa (by omega)
    have pb1:∀ w',Ext w w'→g1<w'.heap.size:=fun w' x=>Nat.lt_of_lt_of_le (H1.out.pb (by omega)) x.le
    have pb2:∀ w',Ext w w'→g2<w'.heap.size:=fun w' x=>Nat.lt_of_lt_of_le (H2.out.pb (by omega)) x.le
    obtain ⟨x,hx⟩:∃ x,x=u k:=⟨_,rfl⟩
    obtain ⟨y,hy⟩:∃ y,y=v k:=⟨_,rfl⟩
    have p1:∀ w',Ext w w'→w'.cell? ⟨g1,o1+k,none⟩=some (.int .i64 x):=fun w' h=>by rw [hx];exact h.cell (H1.out.c k hlt)
    have q1:∀ w',Ext w w'→w'.cell? ⟨g2,o2+k,none⟩=some (.int .i64 y):=fun w' h=>by rw [hy];exact h.cell (H2.out.c k hlt)
    have HX:=Lib.hid (And.intro hx hy)
    clear hx hy
    by_cases e:y<x
    ·have d1:decide (y<x)=true:=decide_eq_true e
     have HE:=Lib.hid e
     clear e
     go_upto_region 6 with fail
     go_quiet (fail)
     have hq:=hxr.drewN nq
     go_wp2_with fail
     go_ret
     exact ⟨false,rfl,⟨fun h=>(by cases h),fun h=>absurd (h.2 k hlt) (by rw [←HX.out.1,←HX.out.2];have:=HE.out;omega)⟩,hq⟩
    ·have d1:decide (y<x)=false:=decide_eq_false e
     have HE:=Lib.hid (show x≤y from by omega)
     clear e
     go_upto_region 6 with fail
     go_quiet (fail)
     have hq:=hxr.drewN nq
     go_wp2_with fail
     go_roundg (n - (k+1))
     case rel=>exact ⟨k+1,by omega,rfl,by go_num,hq,fun i hi=>by
      by_cases e:i=k
      ·subst e;rw [←HX.out.1,←HX.out.2];exact HE.out
      ·exact HA.out i (by omega)⟩
     case measure=>omega
   ·obtain rfl:k=n:=by omega
    go_wp2_with fail
    go_ret
    exact ⟨true,rfl,⟨fun _=>⟨by first | rfl | trivial,HA.out⟩,fun _=>rfl⟩,hxr⟩
 ·have d0:((n:Int) != (m:Int))=true:=by simp;omega
  go_wp2_with fail
  go_ret
  exact ⟨false,rfl,⟨fun h=>(by cases h),fun h=>absurd h.1 hnm⟩,hww⟩
theorem LeqL.both {n m:Nat} {u v:Nat→Int}:LeqL n m u v∧LeqL m n v u↔EqL n m u v:=
 ⟨fun h=>⟨h.1.1,fun i hi=>Int.le_antisymm (h.1.2 i hi) (h.2.2 i (by have:=h.1.1;omega))⟩,fun h=>⟨⟨h.1,fun i hi=>Int.le_of_eq (h.2 i hi)⟩,⟨h.1.symm,fun i hi=>Int.le_of_eq (h.2 i (by have:=h.1;omega)).symm⟩⟩⟩
set_option maxHeartbeats 1000000 in
theorem same36_any (w : World) (a1 a2 : Option Addr) (g1 o1 g2 o2 n m c1 c2 : Nat) (u v : Nat → Int) (h1 : NumAt w n a1 g1 o1 u) (h2 : NumAt w m a2 g2 o2 v) :
    Calls Tryz.prog 128 #[.slice a1 n c1,.slice a2 m c2] w (BoolPost (EqL n m u v) w):=by
 have HA:=Lib.hid (fun W (x:Ext w W)=>rleq_any W a1 a2 g1 o1 g2 o2 n m c1 c2 u v (h1.ext x) (h2.ext x))
 have HB:=Lib.hid (fun W (x:Ext w W)=>rleq_any W a2 a1 g2 o2 g1 o1 m n c2 c1 v u (h2.ext x) (h1.ext x))
 have hww:=Ext.refl w
 clear h1 h2
 go_enter Tryz.func128,Tryz.ntmps128
 go_wp2_with fail
 go_at_call 72
 refine (HA.out w hww).mono ?_
 rintro e w2 ⟨b,rfl,hb,hx2⟩
 have HP:=Lib.hid hb
 clear hb
 cases b with
 | false =>
  go_wp2_with fail
  go_ret
  exact ⟨false,rfl,⟨fun h=>(by cases h),fun h=>absurd (HP.out.2 (LeqL.both.2 h).1) (by decide)⟩,hx2⟩
 | true =>
  go_wp2_with fail
  go_at_call 72
  refine (HB.out w2 hx2).mono ?_
  rintro e w3 ⟨c,rfl,hc,hx3⟩
  have HQ:=Lib.hid hc
  clear hc
  go_wp2_with fail
  go_ret
  exact ⟨c,by first | rfl | simp,HQ.out.trans ⟨fun h=>LeqL.both.1 ⟨HP.out.1 (by first | rfl | trivial),h⟩,fun h=>(LeqL.both.2 h).2⟩,hx2.trans hx3⟩
set_option maxHeartbeats 1000000 in
theorem sel_any (w : World) (S : SlcD) (hS : S.At w) (p i : Nat) (x : Int) (hp : p < S.j.s.n) (hi : i < (S.j.m p).n) (hx : x = (i : Int) + 1) :
    Calls Tryz.prog 118 #[S.val,.agg #[.int .i64 p,.int .i64 x]] w fun e w'=>e=.returned (.slice ((S.j.m p).ra i) ((S.j.m p).rn i) ((S.j.m p).rc i))∧Ext w w':=by
 have hn3:=hS.j.s.hn
 have hM:=(hS.j.c p hp).2.at'
 have hnm:=hM.hn
 have hp':(p:Int)<(S.j.s.n:Int):=by omega
 have hi':(i:Int)<((S.j.m p).n:Int):=by omega
 have hb1:∀ w',Ext w w'→S.j.s.b<w'.heap.size:=fun w' x=>Nat.lt_of_lt_of_le (hS.j.s.hb (by omega)) x.le
 have hb2:=hM.pb (by omega)
 have k1:∀ w',Ext w w'→w'.cell? ⟨S.j.s.b,S.j.s.o+p,none⟩=some (.slice (some ⟨(S.j.m p).b,(S.j.m p).off,none⟩) (S.j.m p).n (S.j.m p).cap):=fun w' x=>by
  rw [←hM.pa (by omega)];exact x.cell (hS.j.c p hp).1
 have k2:∀ w',Ext w w'→w'.cell? ⟨(S.j.m p).b,(S.j.m p).off+i,none⟩=some (.slice ((S.j.m p).ra i) ((S.j.m p).rn i) ((S.j.m p).rc i)):=fun w' x=>hM.p0 w' x i hi
 have hxi:IntKind.i64.wrap (x - 1)=(i:Int):=by rw [IntWalk.i64_in _ (by omega)];omega
 have hv:S.val=.agg #[.bool S.em,.slice S.f.s.a S.f.s.n S.f.s.c,.slice S.l.s.a S.l.s.n S.l.s.c,.slice (some ⟨S.j.s.b,S.j.s.o,none⟩) S.j.s.n S.j.s.c]:=by
  show Value.agg #[_,_,_,.slice S.j.s.a _ _]=_
  rw [hS.j.s.ha (by omega)]
 rw [hv]
 generalize (S.j.m p).n=nm at *
 generalize (S.j.m p).b=bm at *
 generalize (S.j.m p).off=om at *
 generalize (S.j.m p).cap=cm at *
 generalize (S.j.m p).ra i=ea at *
 generalize (S.j.m p).rn i=en at *
 generalize (S.j.m p).rc i=ec at *
 clear hv hM hS hx
 go_enter Tryz.func118,Tryz.ntmps118
 go_upto_region 1 with fail
 refine boxed2 (w:=w) (G:=fun x=>Code.wp _ _ _ _ x) ?_
 intro w1 hx1 hs1 ⟨l0,c0,_,_⟩ ⟨l1,c1,_,_⟩
 have hx11:Ext w1 w1:=Ext.refl _
 clear hs1
 go_quiet (fail)
 have hq:=hx1.drewN nq
 go_wp2_with fail
 go_ret
 exact ⟨rfl,hq⟩
set_option maxHeartbeats 1000000 in
theorem tel_any (w : World) (S : SlcD) (hS : S.At w) (p i : Nat) (x : Int) (hp : p < S.j.s.n) (hi : i < (S.j.m p).n) (hx : x = (i : Int) + 1) :
    Calls Tryz.prog 160 #[S.val,.agg #[.int .i64 p,.int .i64 x]] w fun e w'=>e=.returned (.slice ((S.j.m p).ra i) ((S.j.m p).rn i) ((S.j.m p).rc i))∧Ext w w':=by
 have hn3:=hS.j.s.hn
 have hM:=(hS.j.c p hp).2.at'
 have hnm:=hM.hn
 have hp':(p:Int)<(S.j.s.n:Int):=by omega
 have hi':(i:Int)<((S.j.m p).n:Int):=by omega
 have hb1:∀ w',Ext w w'→S.j.s.b<w'.heap.size:=fun w' x=>Nat.lt_of_lt_of_le (hS.j.s.hb (by omega)) x.le
 have hb2:=hM.pb (by omega)
 have k1:∀ w',Ext w w'→w'.cell? ⟨S.j.s.b,S.j.s.o+p,none⟩=some (.slice (some ⟨(S.j.m p).b,(S.j.m p).off,none⟩) (S.j.m p).n (S.j.m p).cap):=fun w' x=>by
  rw [←hM.pa (by omega)];exact x.cell (hS.j.c p hp).1
 have k2:∀ w',Ext w w'→w'.cell? ⟨(S.j.m p).b,(S.j.m p).off+i,none⟩=some (.slice ((S.j.m p).ra i) ((S.j.m p).rn i) ((S.j.m p).rc i)):=fun w' x=>hM.p0 w' x i hi
 have hxi:IntKind.i64.wrap (x - 1)=(i:Int):=by rw [IntWalk.i64_in _ (by omega)];omega
 have hv:S.val=.agg #[.bool S.em,.slice S.f.s.a S.f.s.n S.f.s.c,.slice S.l.s.a S.l.s.n S.l.s.c,.slice (some ⟨S.j.s.b,S.j.s.o,none⟩) S.j.s.n S.j.s.c]:=by
  show Value.agg #[_,_,_,.slice S.j.s.a _ _]=_
  rw [hS.j.s.ha (by omega)]
 rw [hv]
 generalize (S.j.m p).n=nm at *
 generalize (S.j.m p).b=bm at *
 generalize (S.j.m p).off=om at *
 generalize (S.j.m p).cap=cm at *
 generalize (S.j.m p).ra i=ea at *
 generalize (S.j.m p).rn i=en at *
 generalize (S.j.m p).rc i=ec at *
 clear hv hM hS hx
 go_enter Tryz.func160,Tryz.ntmps160
 go_upto_region 1 with fail
 refine boxed2 (w:=w) (G:=fun x=>Code.wp _ _ _ _ x) ?_
 intro w1 hx1 hs1 ⟨l0,c0,_,_⟩ ⟨l1,c1,_,_⟩
 have hx11:Ext w1 w1:=Ext.refl _
 clear hs1
 go_quiet (fail)
 have hq:=hx1.drewN nq
 go_wp2_with fail
 go_ret
 exact ⟨rfl,hq⟩
set_option maxHeartbeats 1000000 in
theorem sin_any (w : World) (a : Option Addr) (g o n cap : Nat) (v : Nat → Int) (h1 : NumAt w n a g o v) (p : Nat) (x : Int) (hp : p < n) :
    Calls Tryz.prog 166 #[.agg #[.int .i64 p,.int .i64 x],.slice a n cap] w fun e w'=>e=.returned (.bool (decide (x≤v p)))∧Ext w w':=by
 have hn:=h1.hn
 have hp':(p:Int)<(n:Int):=by omega
 obtain rfl:=h1.pa (by omega)
 have hb:∀ w',Ext w w'→g<w'.heap.size:=fun w' x=>Nat.lt_of_lt_of_le (h1.pb (by omega)) x.le
 have hc:∀ w',Ext w w'→w'.cell? ⟨g,o+p,none⟩=some (.int .i64 (v p)):=fun w' x=>x.cell (h1.c p hp)
 generalize v p=y at *
 clear h1
 go_enter Tryz.func166,Tryz.ntmps166
 go_upto_region 1 with fail
 refine boxed1 (w:=w) (G:=fun x=>Code.wp _ _ _ _ x) ?_
 intro w1 hx1 hs1 ⟨l0,c0,_,_⟩
 have hx11:Ext w1 w1:=Ext.refl _
 clear hs1
 go_quiet (fail)
 have hq:=hx1.drewN nq
 go_wp2_with fail
 go_ret
 exact ⟨rfl,hq⟩
set_option maxHeartbeats 1000000 in
theorem each34_any (w : World) (a : Option Addr) (g o n cap : Nat) (v : Nat → Int) (h1 : NumAt w n a g o v) (hv : ∀ p, p < n → v p ≤ 1000000) (f : Nat) (lb : Array Value) (P : Nat → Nat → Prop) (eg : Enters Tryz.prog f)
    (hf:∀ p i:Nat,p<n→(i:Int)<v p→∀ W,Ext w W→Calls Tryz.prog f (#[.agg #[.int .i64 (p:Int),.int .i64 ((i:Int)+1)]]++lb) W (BoolPost (P p i) W)) :
    Calls Tryz.prog 113 #[.slice a n cap,.func (.func f) #[] lb] w (BoolPost (∀ p i:Nat,p<n→(i:Int)<v p→P p i) w):=by
 have hn:=h1.hn
 have H1:=Lib.hid h1
 have HF:=Lib.hid hf
 have HV:=Lib.hid hv
 have hww:=Ext.refl w
 clear h1 hf hv
 unfold Enters at eg
 go_enter Tryz.func113,Tryz.ntmps113
 go_wp2_with fail
 go_loopg [10] n (fun gg v10 wr=>∃ k:Nat,k≤n∧gg=n - k∧v10=.int .i64 k∧Ext w wr∧∀ p i:Nat,p<k→(i:Int)<v p→P p i)
 case atStart=>exact ⟨0,by omega,rfl,rfl,hww,fun p i h=>by omega⟩
 case round=>
  obtain ⟨k,hk,rfl,rfl,hxr,hall⟩:=hrel
  have HA:=Lib.hid hall
  clear hall hww
  by_cases hlt:k<n
  ·have hlt':(k:Int)<(n:Int):=by omega
   obtain rfl:=H1.out.pa (by omega)
   have pb1:∀ w',Ext w w'→g<w'.heap.size:=fun w' x=>Nat.lt_of_lt_of_le (H1.out.pb (by omega)) x.le
   obtain ⟨x,hx⟩:∃ x,x=v k:=⟨_,rfl⟩
   have p1:∀ w',Ext w w'→w'.cell? ⟨g,o+k,none⟩=some (.int .i64 x):=fun w' h=>by rw [hx];exact h.cell (H1.out.c k hlt)
   have hxb:x≤1000000:=by rw [hx];exact HV.out k hlt
   have HX:=Lib.hid hx
   clear hx
   go_wp2_with fail
   go_loopg [16] x.toNat (fun gg v16 ws=>∃ i:Nat,i≤x.toNat∧gg=x.toNat - i∧v16=.int .i64 i∧Ext w ws∧∀ j:Nat,j<i→P k j)
   case atStart=>exact ⟨0,by omega,rfl,rfl,hxr,fun j h=>by omega⟩
   case round=>
    clear hxr
    obtain ⟨i,hi,rfl,rfl,hxs,hal2⟩:=hrel
    have HB:=Lib.hid hal2
    clear hal2
    by_cases hli:(i:Int)<x
    ·have hc:=HF.out k i hlt (by rw [←HX.out];exact hli) _ hxs
     have hi1:IntKind.i64.wrap ((i:Int)+1)=(i:Int)+1:=IntWalk.i64_in _ (by omega)
     go_wp2_with fail
     go_at_fn f
     refine hc.mono ?_
     rintro e w2 ⟨b,rfl,hb,hx2⟩
     have HBB:=Lib.hid hb
     have hxw2:=hxs.trans hx2
     clear hb hc hxs
     cases b with
     | false =>
      go_wp2_with fail
      go_ret
      exact ⟨false,rfl,⟨fun h=>(by cases h),fun h=>absurd (HBB.out.2 (h k i hlt (by rw [←HX.out];exact hli))) (by decide)⟩,hxw2⟩
     | true =>
      go_wp2_with fail
      go_roundg (x.toNat - (i+1))
      case rel=>exact ⟨i+1,by omega,rfl,by go_num,hxw2,fun j hj=>by
       by_cases e:j=i
       ·subst e;exact HBB.out.1 (by first | rfl | trivial)
       ·exact HB.out j (by omega)⟩
      case measure=>omega
    ·go_wp2_with fail
     go_roundg (n - (k+1))
     case rel=>exact ⟨k+1,by omega,rfl,by go_num,hxs,fun p j hp hj=>by
      by_cases e:p=k
      ·subst e;rw [←HX.out] at hj;exact HB.out j (by omega)
      ·exact HA.out p j (by omega) hj⟩
     case measure=>omega
  ·obtain rfl:k=n:=by omega
   go_wp2_with fail
   go_ret
   exact ⟨true,rfl,⟨fun _=>HA.out,fun _=>rfl⟩,hxr⟩
end Go.Proofs.YtmhapcnlpoilpaaGreatDoor
