/- Contracts and laws in plain Lean for RApp: group T04. -/
import Derived.Test.YtlfdfkbmollaaaaGreatDoorT01
import Derived.RangeFuncNested
import Derived.RangeFuncBound
import Derived.RangeFuncCalls
import Derived.RangeFuncLeaves
import Derived.Shelf.Abstract
import Derived.Shelf.RegionOpen
import Derived.OwnWalkIn
import Derived.TacticsInMore
import Derived.LoopNIn
import Derived.LoopIn
import Derived.Sort.CutIn
import Derived.Test.YtlfdfkbmollaaaaGreatDoorT03
import Derived.RegionIn
import Derived.BigRegionIn
set_option maxRecDepth 100000
namespace Go.Proofs.YtlfdfkbmollaaaaGreatDoor
open Go.RowKit Go.Shelf
attribute [local go_sem] Oper.semAt_some
abbrev Tr.Id (T:Tr):Type:={ x:Nat × Nat // x.1<T.n∧x.2<T.en x.1 }
def Tr.mk? (T:Tr) (k i:Nat):Option T.Id:=if h:k<T.n∧i<T.en k then some ⟨(k,i),h⟩ else none
def Tr.evsTo (T:Tr) (k i:Nat):List T.Id:=((List.range k).flatMap fun p=>(List.range (T.en p)).filterMap (T.mk? p))++(List.range i).filterMap (T.mk? k)
def Tr.evs (T:Tr):List T.Id:=T.evsTo T.n 0
theorem Tr.evsTo_zero (T:Tr):T.evsTo 0 0=[]:=rfl
theorem Tr.evsTo_succ (T:Tr) (k i:Nat) (hk:k<T.n) (hi:i<T.en k):T.evsTo k (i+1)=T.evsTo k i++[⟨(k,i),hk,hi⟩]:=by
 unfold Tr.evsTo
 rw [List.range_succ,List.filterMap_append,←List.append_assoc]
 congr 1
 simp [Tr.mk?,hk,hi]
theorem Tr.evsTo_next (T:Tr) (k:Nat):T.evsTo k (T.en k)=T.evsTo (k+1) 0:=by
 unfold Tr.evsTo
 rw [List.range_succ,List.flatMap_append]
 simp
theorem Tr.evsTo_le (T:Tr) (k i:Nat) (hk:k<T.n) (hi:i≤T.en k):T.evsTo k i <+: T.evsTo (k+1) 0:=by
 have h:∀ d,i+d=T.en k→T.evsTo k i <+: T.evsTo (k+1) 0:=by
  intro d
  induction d generalizing i with
  | zero => intro h;rw [show i=T.en k by omega,T.evsTo_next];exact List.prefix_refl _
  | succ d ih =>
   intro h
   refine List.IsPrefix.trans ?_ (ih (i+1) (by omega) (by omega))
   rw [T.evsTo_succ k i hk (by omega)]
   exact List.prefix_append _ _
 exact h (T.en k - i) (by omega)
theorem Tr.evsTo_rows (T:Tr) (k:Nat) (hk:k≤T.n):T.evsTo k 0 <+: T.evs:=by
 have h:∀ d k,k+d=T.n→T.evsTo k 0 <+: T.evs:=by
  intro d
  induction d with
  | zero => intro k h;rw [show k=T.n by omega];exact List.prefix_refl _
  | succ d ih => intro k h;exact (T.evsTo_le k 0 (by omega) (Nat.zero_le _)).trans (ih (k+1) (by omega))
 exact h (T.n - k) k (by omega)
theorem Tr.evsTo_prefix (T:Tr) (k i:Nat) (hk:k<T.n) (hi:i≤T.en k):T.evsTo k i <+: T.evs:=(T.evsTo_le k i hk hi).trans (T.evsTo_rows (k+1) (by omega))
theorem Tr.evsTo_lt (T:Tr) (k i:Nat) (hk:k<T.n) (hi:i<T.en k):(T.evsTo k i).length<T.evs.length:=by
 have h:=(T.evsTo_prefix k (i+1) hk hi).length_le
 rw [T.evsTo_succ k i hk hi] at h
 simp at h;omega
abbrev TM.encs (T:TM) (x:T.toTr.Id):Array Value:=#[.agg #[.int .i64 x.1.1,.int .i64 (x.1.2+1)],T.ev x.1.1 x.1.2]
theorem boxed1a {w : World} {c : Array Value} {t : TypeId} {G : World → Prop}
    (h:∀ w2,Ext w w2→w2.heap.size=w.heap.size+1→Box w2 w.heap.size c→(∃ o,w2=w.alloc o)→G w2):G (w.alloc (.cells c t)):=
 h _ (Ext.alloc _ _) (by simp) (Box.of (t:=t) (by show (w.heap.push _)[w.heap.size]?=_;simp)) ⟨_,rfl⟩
set_option maxHeartbeats 1000000 in
theorem events_any (T : TM) (w : World) :
    Calls Tryz.prog 131 #[T.val] w fun e w'=>e=.returned (.func (.func 180) #[] #[.pointer (some ⟨w.heap.size,0,none⟩)])∧w'=w.alloc (.cells #[.slice T.a T.n T.cap] 24):=by
 go_enter Tryz.func131,Tryz.ntmps131
 go_wp2
 go_ret
 exact ⟨rfl,rfl⟩
set_option maxHeartbeats 1000000 in
theorem events1_in (n : Nat) (hn : 1 ≤ n) (l Bn : Nat) (T : TM) (w : World) (hT : T.At w) (J Jx : List T.toTr.Id → World → Prop)
    (hY:∀ pre x W,J pre W→pre.length<T.toTr.evs.length→YieldAt Fence.wide (n - 1) Tryz.prog l (T.encs x) W fun e W'=>
     (e=.returned (.bool true)∧J (pre++[x]) W'∧Below w.heap.size W W')∨(e=.returned (.bool false)∧Jx (pre++[x]) W'))
    (W:World) (hW:Ext w W) (hb:W.cell? ⟨Bn,0,none⟩=some (.slice T.a T.n T.cap)) (hJ:AbidesFrom W.heap.size J) (h0:J [] W) :
    CallsIn Fence.wide n Tryz.prog 180 #[.func (.yield l) #[] #[],.pointer (some ⟨Bn,0,none⟩)] W fun e W'=>(∃ v,e=.returned v)∧
     ((∃ ys,ys=T.toTr.evs∧J ys W')∨(∃ pre,pre <+: T.toTr.evs∧Jx pre W')):=by
 have HY:=Lib.hid hY
 have HT:=Lib.hid hT
 have HJ:∀ pre W1 o,J pre W1→J pre (W1.alloc o):=fun pre W1 o h=>hJ pre W1 _ none h (World.grownBy_alloc W1 o none) (fun r e=>by cases e)
 have HJ:=Lib.hid HJ
 have hn0:=hT.P.hn
 have p0:=hT.P.p0
 have p1:=hT.P.p1
 have p2:=hT.P.p2
 have e0:=hT.E.e0
 have e1:=hT.E.e1
 have e2:=hT.E.e2
 have e3:=hT.E.e3
 have e4:=hT.E.e4
 clear hY hT hJ
 by_cases hz:0<T.n
 ·have pa:=HT.out.P.pa hz
  have pb:=HT.out.P.pb hz
  refine callsIn_of_wp Tryz.func180 rfl trivial ?_ rfl
  simp only [Tryz.ntmps180,List.size_toArray,List.length_cons,List.length_nil,Nat.reduceAdd,Nat.reduceSub,Array.replicate_succ,Array.replicate_zero,List.push_toArray,List.append_toArray,List.nil_append,List.cons_append]
  gi_wp2
  clear hb
  gi_loopw [10] (fun v wr=>∃ k:Nat,k≤T.n∧v=.int .i64 k∧Ext w wr∧J (T.toTr.evsTo k 0) wr) (fun v _=>T.n - (intOf v).toNat)
  case atStart=>exact ⟨0,Nat.zero_le _,rfl,hW,by rw [Tr.evsTo_zero];exact h0⟩
  obtain ⟨k,hk,rfl,hxr,hJr⟩:=hrel
  by_cases hlt:k<T.n
  ·have hen:=HT.out.E.he k hlt
   by_cases hez:0<T.en k
   ·have ea:=HT.out.E.ea k hlt hez
    have eb:=HT.out.E.eb k hlt hez
    gi_upto_region 3 with fail
    refine boxed1a (w:=wr) (G:=fun x=>Code.wpIn _ _ _ _ _ _ x) ?_
    intro w3 hx3 hs3 ⟨l3,c3,_,_⟩ ⟨o3,ho3⟩
    have hJ3:J (T.toTr.evsTo k 0) w3:=by rw [ho3];exact HJ.out _ _ _ hJr
    clear hs3 ho3
    have hx33:Ext w3 w3:=Ext.refl _
    have hxw3:Ext w w3:=hxr.trans hx3
    gi_wp2
    gi_loopw [18] (fun v wr=>∃ i:Nat,i≤T.en k∧v=.int .i64 i∧Ext w wr∧J (T.toTr.evsTo k i) wr) (fun v _=>T.en k - (intOf v).toNat)
    case atStart=>exact ⟨0,Nat.zero_le _,rfl,hxw3,hJ3⟩
    obtain ⟨i,hi,rfl,hxi,hJi⟩:=hrel
    by_cases hli:i<T.en k
    ·have hi':(i:Int)<(T.en k:Int):=by omega
     gi_upto_region 6 with fail
     refine boxed1a (w:=wr) (G:=fun x=>Code.wpIn _ _ _ _ _ _ x) ?_
     intro w4 hx4 hs4 ⟨l4,c4,_,_⟩ ⟨o4,ho4⟩
     have hJ4:J (T.toTr.evsTo k i) w4:=by rw [ho4];exact HJ.out _ _ _ hJi
     clear hs4 ho4
     have hx44:Ext w4 w4:=Ext.refl _
     have hxw4:Ext w w4:=hxi.trans hx4
     obtain ⟨fn,tmps,assign,body,hy,hR⟩:=HY.out _ ⟨(k,i),hlt,hli⟩ w4 hJ4 (T.toTr.evsTo_lt k i hlt hli)
     simp only [TM.encs] at hy
     gi_wp2
     refine hR.mono ?_
     rintro e w5 (⟨rfl,hJ5,hk5⟩ | ⟨rfl,hJx5⟩)
     ·have hxw5:Ext w w5:=Below.trans hxw4 hk5
      gi_wp2
      go_roundw
      case rel=>exact ⟨i+1,by omega,by go_num,hxw5,by rw [T.toTr.evsTo_succ k i hlt hli];exact hJ5⟩
      case measure=>simp [intOf];omega
     ·gi_wp2
      refine bodyPost_ret (results_none rfl _ _ _) rfl ?_
      exact ⟨⟨_,rfl⟩,.inr ⟨_,by have:=T.toTr.evsTo_prefix k (i+1) hlt hli;rw [T.toTr.evsTo_succ k i hlt hli] at this;exact this,hJx5⟩⟩
    ·gi_wp2
     go_roundw
     case rel=>exact ⟨k+1,by omega,by go_num,hxi,by rw [←T.toTr.evsTo_next,show T.en k=i by omega];exact hJi⟩
     case measure=>simp [intOf];omega
   ·skip
    gi_upto_region 3 with fail
    refine boxed1a (w:=wr) (G:=fun x=>Code.wpIn _ _ _ _ _ _ x) ?_
    intro w3 hx3 hs3 ⟨l3,c3,_,_⟩ ⟨o3,ho3⟩
    have hJ3:J (T.toTr.evsTo k 0) w3:=by rw [ho3];exact HJ.out _ _ _ hJr
    clear hs3 ho3
    have hx33:Ext w3 w3:=Ext.refl _
    have hxw3:Ext w w3:=hxr.trans hx3
    gi_wp2
    gi_loopw [18] (fun v wr=>∃ i:Nat,i≤T.en k∧v=.int .i64 i∧Ext w wr∧J (T.toTr.evsTo k i) wr) (fun v _=>T.en k - (intOf v).toNat)
    case atStart=>exact ⟨0,Nat.zero_le _,rfl,hxw3,hJ3⟩
    obtain ⟨i,hi,rfl,hxi,hJi⟩:=hrel
    by_cases hli:i<T.en k
    ·exact absurd hli (by omega)
    ·gi_wp2
     go_roundw
     case rel=>exact ⟨k+1,by omega,by go_num,hxi,by rw [←T.toTr.evsTo_next,show T.en k=i by omega];exact hJi⟩
     case measure=>simp [intOf];omega
  ·gi_wp2
   go_end0
   exact ⟨⟨_,rfl⟩,.inl ⟨_,rfl,by unfold Tr.evs;rw [show T.n=k by omega];exact hJr⟩⟩
 ·skip
  refine callsIn_of_wp Tryz.func180 rfl trivial ?_ rfl
  simp only [Tryz.ntmps180,List.size_toArray,List.length_cons,List.length_nil,Nat.reduceAdd,Nat.reduceSub,Array.replicate_succ,Array.replicate_zero,List.push_toArray,List.append_toArray,List.nil_append,List.cons_append]
  gi_wp2
  clear hb
  gi_loopw [10] (fun v wr=>∃ k:Nat,k≤T.n∧v=.int .i64 k∧Ext w wr∧J (T.toTr.evsTo k 0) wr) (fun v _=>T.n - (intOf v).toNat)
  case atStart=>exact ⟨0,Nat.zero_le _,rfl,hW,by rw [Tr.evsTo_zero];exact h0⟩
  obtain ⟨k,hk,rfl,hxr,hJr⟩:=hrel
  by_cases hlt:k<T.n
  ·exact absurd hlt (by omega)
  ·gi_wp2
   go_end0
   exact ⟨⟨_,rfl⟩,.inl ⟨_,rfl,by unfold Tr.evs;rw [show T.n=k by omega];exact hJr⟩⟩
theorem events_stops (n : Nat) (hn : 1 ≤ n) (Bn : Nat) (T : TM) (w wb : World) (hT : T.At w) (hwb : Ext w wb) (hB : wb.cell? ⟨Bn, 0, none⟩ = some (.slice T.a T.n T.cap)) :
    SeqStopsK Fence.wide n Tryz.prog 180 #[.pointer (some ⟨Bn,0,none⟩)] T.encs (Below w.heap.size) (fun ys=>ys=T.toTr.evs) (fun pre=>pre <+: T.toTr.evs) T.toTr.evs.length wb:=
 fun l J Jx W hW hJ _ hY h0=>events1_in n hn l Bn T w hT J Jx hY W (hwb.trans hW) (Ext.cell hW hB) hJ h0
end Go.Proofs.YtlfdfkbmollaaaaGreatDoor

namespace Go.Proofs.YtlfdfkbmollaaaaGreatDoor
open Go.RowKit Go.Shelf
attribute [local go_sem] Oper.semAt_some
structure Ltr where
 fp:Nat→Int
 fi:Nat→Int
 tp:Nat→Int
 ti:Nat→Int
def Ltr.zero:Ltr:=⟨fun _=>0,fun _=>0,fun _=>0,fun _=>0⟩
def upd (f:Nat→Int) (m:Nat) (v:Int):Nat→Int:=fun j=>if j=m then v else f j
def Ltr.step (T:Tr) (L:Ltr) (x:T.Id):Ltr:=
 if T.kind x.1.1 x.1.2=2 then { L with fp:=upd L.fp (T.msg x.1.1 x.1.2).toNat x.1.1,fi:=upd L.fi (T.msg x.1.1 x.1.2).toNat (x.1.2+1) }
 else if T.kind x.1.1 x.1.2=3 then { L with tp:=upd L.tp (T.msg x.1.1 x.1.2).toNat x.1.1,ti:=upd L.ti (T.msg x.1.1 x.1.2).toNat (x.1.2+1) }
 else L
def Ltr.of (T:Tr) (pre:List T.Id):Ltr:=pre.foldl (Ltr.step T) Ltr.zero
theorem Ltr.of_snoc (T:Tr) (pre:List T.Id) (x:T.Id):Ltr.of T (pre++[x])=Ltr.step T (Ltr.of T pre) x:=by simp [Ltr.of]
def Tr.NoFault (T:Tr) (pre:List T.Id) (x:T.Id):Prop:=
 (T.kind x.1.1 x.1.2=2→(Ltr.of T pre).fi (T.msg x.1.1 x.1.2).toNat≤0)∧
 (T.kind x.1.1 x.1.2=3→(Ltr.of T pre).ti (T.msg x.1.1 x.1.2).toNat≤0∧T.sendsB (T.peer x.1.1 x.1.2).toNat (T.msg x.1.1 x.1.2) x.1.1=true)
def Tr.OkList (T:Tr) (l:List T.Id):Prop:=∀ pre x,pre++[x] <+: l→T.NoFault pre x
structure Ltr.At (L:Ltr) (w:World) (b:Nat):Prop where
 c0:∀ m,m<200→w.cell? ⟨b,m*4,none⟩=some (.int .i64 (L.fp m))
 c1:∀ m,m<200→w.cell? ⟨b,m*4+1,none⟩=some (.int .i64 (L.fi m))
 c2:∀ m,m<200→w.cell? ⟨b,m*4+2,none⟩=some (.int .i64 (L.tp m))
 c3:∀ m,m<200→w.cell? ⟨b,m*4+3,none⟩=some (.int .i64 (L.ti m))
 fr:∀ o,w.frozen? ⟨b,o,none⟩=false
theorem zeros_letters:Tryz.zeroCells246=Array.replicate 800 (.int .i64 0):=by kernel_rfl
theorem zeros_get (i:Nat) (h:i<800):Tryz.zeroCells246[i]?=some (.int .i64 0):=by
 rw [zeros_letters,Array.getElem?_replicate,if_pos h]
theorem Ltr.own {β:Type} (B b:Nat) (L:β→Ltr):OwnFrom B (fun (s:β) W=>(L s).At W b):=by
 intro s W W' row h hg hr
 have hr':=fun r e=>(hr r e).2
 exact ⟨fun m hm=>cell_kept (h.c0 m hm) hg hr',fun m hm=>cell_kept (h.c1 m hm) hg hr',fun m hm=>cell_kept (h.c2 m hm) hg hr',fun m hm=>cell_kept (h.c3 m hm) hg hr',
  fun o=>(World.frozen?_of_block (w:=W) (by
   have hlt:=cell_lt (h.c0 0 (by omega))
   refine hg.block b hlt (fun e=>?_)
   obtain ⟨o,ho,hc⟩:=hr' b e.symm
   have h0:=h.c0 0 (by omega)
   simp only [World.cell?,ho] at h0
   cases o <;> simp_all [Obj.isCells])).trans (h.fr o)⟩
theorem Ltr.At.ext {L:Ltr} {w w':World} {b:Nat} (h:L.At w b) (x:Ext w w'):L.At w' b:=
 ⟨fun m hm=>x.cell (h.c0 m hm),fun m hm=>x.cell (h.c1 m hm),fun m hm=>x.cell (h.c2 m hm),fun m hm=>x.cell (h.c3 m hm),fun o=>by
  exact (x.frozen (p:=⟨b,o,none⟩) (cell_lt (h.c0 0 (by omega)):b<w.heap.size)).trans (h.fr o)⟩
theorem Ltr.zero_at {w:World} {b:Nat} (h:Hold w b Tryz.zeroCells246):Ltr.zero.At w b:=by
 have hc:=h.box.cell w (Ext.refl _)
 exact ⟨fun m hm=>by rw [hc,zeros_get _ (by omega)];rfl,fun m hm=>by rw [hc,zeros_get _ (by omega)];rfl,fun m hm=>by rw [hc,zeros_get _ (by omega)];rfl,fun m hm=>by rw [hc,zeros_get _ (by omega)];rfl,h.box.frozen w (Ext.refl _)⟩
structure MsgI (T:TM) (w:World) (pre:List T.toTr.Id) (W:World):Prop where
 lt:(Ltr.of T.toTr pre).At W (w.heap.size+1+1+1+1)
 h0:Hold W w.heap.size #[.slice T.a T.n T.cap]
 h1:Hold W (w.heap.size+1) #[.pointer none]
 h2:Hold W (w.heap.size+1+1) #[.int .i64 0,.int .i64 0]
 h3:Hold W (w.heap.size+1+1+1) #[.int .i64 0]
 h5:Hold W (w.heap.size+1+1+1+1+1) #[.pointer (some ⟨w.heap.size+1+1+1+1,0,none⟩)]
 bl:Below w.heap.size w W
 ok:T.toTr.OkList pre
structure MsgX (T:TM) (w:World) (pre:List T.toTr.Id) (W:World):Prop where
 res:∃ p q c:Int,c≠0∧Hold W (w.heap.size+1) #[.pointer none]∧Hold W (w.heap.size+1+1) #[.int .i64 p,.int .i64 q]∧Hold W (w.heap.size+1+1+1) #[.int .i64 c]
 bl:Below w.heap.size w W
 bad:¬T.toTr.OkList pre
theorem MsgI.own (T:TM) (w w0:World) (h:w.heap.size≤w0.heap.size):OwnFrom w0.heap.size (MsgI T w):=by
 intro s W W' row hi hg hr
 exact ⟨Ltr.own _ _ (Ltr.of T.toTr) s W W' row hi.lt hg hr,Hold.own _ _ (fun _=>_) s W W' row hi.h0 hg hr,Hold.own _ _ (fun _=>_) s W W' row hi.h1 hg hr,Hold.own _ _ (fun _=>_) s W W' row hi.h2 hg hr,
  Hold.own _ _ (fun _=>_) s W W' row hi.h3 hg hr,Hold.own _ _ (fun _=>_) s W W' row hi.h5 hg hr,ownFrom_below (Nat.le_refl _) h s W W' row hi.bl hg hr,hi.ok⟩
theorem MsgX.own (T:TM) (w w0:World) (h:w.heap.size≤w0.heap.size):OwnFrom w0.heap.size (MsgX T w):=by
 intro s W W' row ⟨⟨p,q,c,hc,a,b,d⟩,hb,hbad⟩ hg hr
 exact ⟨⟨p,q,c,hc,Hold.own _ _ (fun _=>_) s W W' row a hg hr,Hold.own _ _ (fun _=>_) s W W' row b hg hr,Hold.own _ _ (fun _=>_) s W W' row d hg hr⟩,ownFrom_below (Nat.le_refl _) h s W W' row hb hg hr,hbad⟩
def MsgPost (T:TM) (w:World) (e:Ending) (w':World):Prop:=Ext w w'∧
 ((∃ b,e=.returned (.tuple #[.pointer (some ⟨b,0,none⟩),.agg #[.int .i64 0,.int .i64 0],.int .i64 0])∧(Ltr.of T.toTr T.toTr.evs).At w' b∧T.toTr.OkList T.toTr.evs)∨
  (∃ p q c:Int,c≠0∧e=.returned (.tuple #[.pointer none,.agg #[.int .i64 p,.int .i64 q],.int .i64 c])∧¬T.toTr.OkList T.toTr.evs))
@[reducible] noncomputable def msgFrame (T:TM) (w:World) (x:T.toTr.Id) (bx:Nat):Act:={ tmps:=#[T.val,.pointer (some ⟨w.heap.size,0,none⟩),.pointer (some ⟨w.heap.size+1,0,none⟩),.pointer (some ⟨w.heap.size+1+1,0,none⟩),.pointer (some ⟨w.heap.size+1+1+1,0,none⟩),.pointer (some ⟨w.heap.size+1+1+1+1+1,0,none⟩),.pointer (some ⟨bx,0,none⟩),.pointer (some ⟨bx+1,0,none⟩),undef,.agg Tryz.zeroCells246,.pointer (some ⟨w.heap.size+1+1+1+1,0,none⟩),.agg #[.slice T.a T.n T.cap],.func (.func 180) #[] #[.pointer (some ⟨w.heap.size+1+1+1+1+1+1,0,none⟩)],.agg #[.int .i64 x.1.1,.int .i64 (x.1.2+1)],T.ev x.1.1 x.1.2,undef,undef,undef,undef,undef,undef,undef,undef,undef,undef,undef,undef,undef,undef,undef,undef,undef,undef,undef,undef,undef,undef,undef,undef,undef,undef,undef,undef,undef,undef,undef,undef,undef,undef,undef,undef,undef,undef,undef,undef,undef,undef,undef,undef,undef,undef,undef,undef,undef],defers:=[] }
structure MsgA (T:TM) (w:World) (x:T.toTr.Id) (bx:Nat) (W:World):Prop where
 hx:Hold W bx #[.int .i64 x.1.1,.int .i64 (x.1.2+1)]
 hy:Hold W (bx+1) #[.int .i64 (T.kind x.1.1 x.1.2),.int .i64 (T.peer x.1.1 x.1.2),.int .i64 (T.msg x.1.1 x.1.2),.int .i64 (T.time x.1.1 x.1.2),.slice (T.aa x.1.1 x.1.2) (T.an x.1.1 x.1.2) (T.ac x.1.1 x.1.2)]
 lt:w.heap.size+1+1+1+1+1<bx
theorem Ltr.At.setFrom {L : Ltr} {W : World} {b m : Nat} (h : L.At W b) (hm : m < 200) (p q : Int) :
    ({ L with fp:=upd L.fp m p,fi:=upd L.fi m q }:Ltr).At ((W.setCell ⟨b,m*4,none⟩ (.int .i64 p)).setCell ⟨b,m*4+1,none⟩ (.int .i64 q)) b:=by
 have e1:=cell_set W b (m*4) (m*4+1) (.int .i64 p) (h.c0 m hm)
 rw [if_neg (by omega),h.c1 m hm] at e1
 have e2:=fun o=>cell_set _ b (m*4+1) o (.int .i64 q) e1
 have e3:=fun o=>cell_set W b (m*4) o (.int .i64 p) (h.c0 m hm)
 refine ⟨fun j hj=>?_,fun j hj=>?_,fun j hj=>?_,fun j hj=>?_,fun o=>by rw [frozen_set,frozen_set];exact h.fr o⟩
 ·rw [e2,e3,if_neg (by omega)]
  by_cases e:j=m
  ·subst e;simp [upd]
  ·rw [if_neg (by omega),h.c0 j hj];simp [upd,e]
 ·rw [e2,e3]
  by_cases e:j=m
  ·subst e;simp [upd]
  ·rw [if_neg (by omega),if_neg (by omega),h.c1 j hj];simp [upd,e]
 ·rw [e2,e3,if_neg (by omega),if_neg (by omega)];exact h.c2 j hj
 ·rw [e2,e3,if_neg (by omega),if_neg (by omega)];exact h.c3 j hj
theorem Ltr.At.setTo {L : Ltr} {W : World} {b m : Nat} (h : L.At W b) (hm : m < 200) (p q : Int) :
    ({ L with tp:=upd L.tp m p,ti:=upd L.ti m q }:Ltr).At ((W.setCell ⟨b,m*4+2,none⟩ (.int .i64 p)).setCell ⟨b,m*4+2+1,none⟩ (.int .i64 q)) b:=by
 have e1:=cell_set W b (m*4+2) (m*4+2+1) (.int .i64 p) (h.c2 m hm)
 rw [if_neg (by omega),h.c3 m hm] at e1
 have e2:=fun o=>cell_set _ b (m*4+2+1) o (.int .i64 q) e1
 have e3:=fun o=>cell_set W b (m*4+2) o (.int .i64 p) (h.c2 m hm)
 refine ⟨fun j hj=>?_,fun j hj=>?_,fun j hj=>?_,fun j hj=>?_,fun o=>by rw [frozen_set,frozen_set];exact h.fr o⟩
 ·rw [e2,e3,if_neg (by omega),if_neg (by omega)];exact h.c0 j hj
 ·rw [e2,e3,if_neg (by omega),if_neg (by omega)];exact h.c1 j hj
 ·rw [e2,e3,if_neg (by omega)]
  by_cases e:j=m
  ·subst e;simp [upd]
  ·rw [if_neg (by omega),h.c2 j hj];simp [upd,e]
 ·rw [e2,e3]
  by_cases e:j=m
  ·subst e;simp [upd]
  ·rw [if_neg (by omega),if_neg (by omega),h.c3 j hj];simp [upd,e]
theorem Tr.OkList.snoc {T:Tr} {pre:List T.Id} {x:T.Id} (h:T.OkList pre) (hx:T.NoFault pre x):T.OkList (pre++[x]):=by
 intro p y hp
 rcases List.prefix_concat_iff.1 (by simpa using hp) with e | hp'
 ·have:=List.append_inj' e rfl
  obtain ⟨rfl,e2⟩:=this
  cases e2;exact hx
 ·exact h p y hp'
theorem msg_ret (B : Nat) {T : TM} {w W : World} {pre : List T.toTr.Id} {x : T.toTr.Id} (h : MsgI T w pre W) (p q c : Int) (hc : c ≠ 0) (hbad : ¬ T.toTr.NoFault pre x) :
    KeepsFrom B W ((((W.setCell ⟨w.heap.size+1,0,none⟩ (.pointer none)).setCell ⟨w.heap.size+1+1,0,none⟩ (.int .i64 p)).setCell ⟨w.heap.size+1+1,1,none⟩ (.int .i64 q)).setCell ⟨w.heap.size+1+1+1,0,none⟩ (.int .i64 c)).drew∧
    MsgX T w (pre++[x]) ((((W.setCell ⟨w.heap.size+1,0,none⟩ (.pointer none)).setCell ⟨w.heap.size+1+1,0,none⟩ (.int .i64 p)).setCell ⟨w.heap.size+1+1,1,none⟩ (.int .i64 q)).setCell ⟨w.heap.size+1+1+1,0,none⟩ (.int .i64 c)).drew:=by
 refine ⟨?_,⟨p,q,c,hc,?_,?_,?_⟩,?_,?_⟩
 ·exact (((keeps_set _ _ _ _).trans (keeps_set _ _ _ _)).trans (keeps_set _ _ _ _)).trans (((keeps_set _ _ _ _)).trans ((KeepsOthers.drew _).from _))
 ·have a1:=h.h1.set 0 (.pointer none)
  simp only [List.setIfInBounds_toArray,List.set_cons_zero] at a1
  have a2:=a1.other ⟨w.heap.size+1+1,0,none⟩ (.int .i64 p) (by dsimp only;omega)
  have a3:=a2.other ⟨w.heap.size+1+1,1,none⟩ (.int .i64 q) (by dsimp only;omega)
  exact (a3.other ⟨w.heap.size+1+1+1,0,none⟩ (.int .i64 c) (by dsimp only;omega)).drew
 ·have a1:=h.h2.other ⟨w.heap.size+1,0,none⟩ (.pointer none) (by dsimp only;omega)
  have a2:=(a1.set 0 (.int .i64 p)).set 1 (.int .i64 q)
  simp only [List.setIfInBounds_toArray,List.set_cons_zero,List.set_cons_succ] at a2
  exact (a2.other ⟨w.heap.size+1+1+1,0,none⟩ (.int .i64 c) (by dsimp only;omega)).drew
 ·have a1:=h.h3.other ⟨w.heap.size+1,0,none⟩ (.pointer none) (by dsimp only;omega)
  have a2:=a1.other ⟨w.heap.size+1+1,0,none⟩ (.int .i64 p) (by dsimp only;omega)
  have a3:=a2.other ⟨w.heap.size+1+1,1,none⟩ (.int .i64 q) (by dsimp only;omega)
  have a4:=a3.set 0 (.int .i64 c)
  simp only [List.setIfInBounds_toArray,List.set_cons_zero] at a4
  exact a4.drew
 ·exact ((((h.bl.setCell (by dsimp only;omega) _).setCell (by dsimp only;omega) _).setCell (by dsimp only;omega) _).setCell (by dsimp only;omega) _).drew
 ·intro hok;exact hbad (hok pre x (List.prefix_refl _))
theorem msg_from (B : Nat) {T : TM} {w W : World} {pre : List T.toTr.Id} {x : T.toTr.Id} {m : Nat} (h : MsgI T w pre W) (hk : T.kind x.1.1 x.1.2 = 2) (hm : T.msg x.1.1 x.1.2 = m) (hm2 : m < 200) (hok : T.toTr.NoFault pre x) :
    KeepsFrom B W ((W.setCell ⟨w.heap.size+1+1+1+1,m*4,none⟩ (.int .i64 x.1.1)).setCell ⟨w.heap.size+1+1+1+1,m*4+1,none⟩ (.int .i64 (x.1.2+1))).drew∧
    Below w.heap.size W ((W.setCell ⟨w.heap.size+1+1+1+1,m*4,none⟩ (.int .i64 x.1.1)).setCell ⟨w.heap.size+1+1+1+1,m*4+1,none⟩ (.int .i64 (x.1.2+1))).drew∧
    MsgI T w (pre++[x]) ((W.setCell ⟨w.heap.size+1+1+1+1,m*4,none⟩ (.int .i64 x.1.1)).setCell ⟨w.heap.size+1+1+1+1,m*4+1,none⟩ (.int .i64 (x.1.2+1))).drew:=by
 have hb:∀ A,Below w.heap.size A W→Below w.heap.size A ((W.setCell ⟨w.heap.size+1+1+1+1,m*4,none⟩ (.int .i64 x.1.1)).setCell ⟨w.heap.size+1+1+1+1,m*4+1,none⟩ (.int .i64 (x.1.2+1))).drew:=
  fun A hA=>((hA.setCell (by dsimp only;omega) _).setCell (by dsimp only;omega) _).drew
 refine ⟨((keeps_set _ _ _ _).trans (keeps_set _ _ _ _)).trans ((KeepsOthers.drew _).from _),hb _ (Below.refl _ _),?_,?_,?_,?_,?_,?_,hb _ h.bl,h.ok.snoc hok⟩
 ·rw [Ltr.of_snoc]
  have:=h.lt.setFrom hm2 (x.1.1:Int) (x.1.2+1)
  have e:Ltr.step T.toTr (Ltr.of T.toTr pre) x={ Ltr.of T.toTr pre with fp:=upd (Ltr.of T.toTr pre).fp m x.1.1,fi:=upd (Ltr.of T.toTr pre).fi m (x.1.2+1) }:=by
   unfold Ltr.step;rw [if_pos hk,hm,Int.toNat_natCast]
  rw [e];exact ⟨this.c0,this.c1,this.c2,this.c3,this.fr⟩
 ·exact ((h.h0.other _ _ (by dsimp only;omega)).other _ _ (by dsimp only;omega)).drew
 ·exact ((h.h1.other _ _ (by dsimp only;omega)).other _ _ (by dsimp only;omega)).drew
 ·exact ((h.h2.other _ _ (by dsimp only;omega)).other _ _ (by dsimp only;omega)).drew
 ·exact ((h.h3.other _ _ (by dsimp only;omega)).other _ _ (by dsimp only;omega)).drew
 ·exact ((h.h5.other _ _ (by dsimp only;omega)).other _ _ (by dsimp only;omega)).drew
theorem msg_to (B : Nat) {T : TM} {w W : World} {pre : List T.toTr.Id} {x : T.toTr.Id} {m : Nat} (h : MsgI T w pre W) (hk : T.kind x.1.1 x.1.2 = 3) (hm : T.msg x.1.1 x.1.2 = m) (hm2 : m < 200) (hok : T.toTr.NoFault pre x) :
    KeepsFrom B W ((W.setCell ⟨w.heap.size+1+1+1+1,m*4+2,none⟩ (.int .i64 x.1.1)).setCell ⟨w.heap.size+1+1+1+1,m*4+2+1,none⟩ (.int .i64 (x.1.2+1))).drew∧
    Below w.heap.size W ((W.setCell ⟨w.heap.size+1+1+1+1,m*4+2,none⟩ (.int .i64 x.1.1)).setCell ⟨w.heap.size+1+1+1+1,m*4+2+1,none⟩ (.int .i64 (x.1.2+1))).drew∧
    MsgI T w (pre++[x]) ((W.setCell ⟨w.heap.size+1+1+1+1,m*4+2,none⟩ (.int .i64 x.1.1)).setCell ⟨w.heap.size+1+1+1+1,m*4+2+1,none⟩ (.int .i64 (x.1.2+1))).drew:=by
 have hb:∀ A,Below w.heap.size A W→Below w.heap.size A ((W.setCell ⟨w.heap.size+1+1+1+1,m*4+2,none⟩ (.int .i64 x.1.1)).setCell ⟨w.heap.size+1+1+1+1,m*4+2+1,none⟩ (.int .i64 (x.1.2+1))).drew:=
  fun A hA=>((hA.setCell (by dsimp only;omega) _).setCell (by dsimp only;omega) _).drew
 refine ⟨((keeps_set _ _ _ _).trans (keeps_set _ _ _ _)).trans ((KeepsOthers.drew _).from _),hb _ (Below.refl _ _),?_,?_,?_,?_,?_,?_,hb _ h.bl,h.ok.snoc hok⟩
 ·rw [Ltr.of_snoc]
  have:=h.lt.setTo hm2 (x.1.1:Int) (x.1.2+1)
  have e:Ltr.step T.toTr (Ltr.of T.toTr pre) x={ Ltr.of T.toTr pre with tp:=upd (Ltr.of T.toTr pre).tp m x.1.1,ti:=upd (Ltr.of T.toTr pre).ti m (x.1.2+1) }:=by
   unfold Ltr.step;rw [if_neg (by rw [hk];decide),if_pos hk,hm,Int.toNat_natCast]
  rw [e];exact ⟨this.c0,this.c1,this.c2,this.c3,this.fr⟩
 ·exact ((h.h0.other _ _ (by dsimp only;omega)).other _ _ (by dsimp only;omega)).drew
 ·exact ((h.h1.other _ _ (by dsimp only;omega)).other _ _ (by dsimp only;omega)).drew
 ·exact ((h.h2.other _ _ (by dsimp only;omega)).other _ _ (by dsimp only;omega)).drew
 ·exact ((h.h3.other _ _ (by dsimp only;omega)).other _ _ (by dsimp only;omega)).drew
 ·exact ((h.h5.other _ _ (by dsimp only;omega)).other _ _ (by dsimp only;omega)).drew
theorem Ltr.At.other {L:Ltr} {W:World} {b:Nat} (h:L.At W b) (p:Addr) (v:Value) (hp:b≠p.block):L.At (W.setCell p v) b:=
 ⟨fun m hm=>by rw [cell_set_other _ _ _ _ _ hp];exact h.c0 m hm,fun m hm=>by rw [cell_set_other _ _ _ _ _ hp];exact h.c1 m hm,fun m hm=>by rw [cell_set_other _ _ _ _ _ hp];exact h.c2 m hm,fun m hm=>by rw [cell_set_other _ _ _ _ _ hp];exact h.c3 m hm,fun o=>by rw [frozen_set];exact h.fr o⟩
theorem Ltr.At.putObj {L:Ltr} {W:World} {b:Nat} (h:L.At W b) (D:Nat) (o:Obj) (hD:b≠D):L.At (W.putObj D o) b:=by
 have e:(W.putObj D o).heap[b]?=W.heap[b]?:=World.putObj_heap_other hD
 have ec:=fun i=>World.cell?_of_block (w:=W) (w':=W.putObj D o) (a:=⟨b,i,none⟩) e
 exact ⟨fun m hm=>by rw [ec];exact h.c0 m hm,fun m hm=>by rw [ec];exact h.c1 m hm,fun m hm=>by rw [ec];exact h.c2 m hm,fun m hm=>by rw [ec];exact h.c3 m hm,fun i=>(World.frozen?_of_block (w:=W) (a:=⟨b,i,none⟩) e).trans (h.fr i)⟩
theorem msg_done {T : TM} {w W : World} (h : MsgI T w T.toTr.evs W) (D : Nat) (hD : w.heap.size + 7 ≤ D) :
    ∀ W9,W9=((((W.setCell ⟨w.heap.size+1,0,none⟩ (.pointer (some ⟨w.heap.size+1+1+1+1,0,none⟩))).setCell ⟨w.heap.size+1+1,0,none⟩ (.int .i64 0)).setCell ⟨w.heap.size+1+1,1,none⟩ (.int .i64 0)).setCell ⟨w.heap.size+1+1+1,0,none⟩ (.int .i64 0)).putObj D (.deferred none)→(W.heap[D]?=some (.deferred (some [])))→
    Hold W9 (w.heap.size+1) #[.pointer (some ⟨w.heap.size+1+1+1+1,0,none⟩)]∧Hold W9 (w.heap.size+1+1) #[.int .i64 0,.int .i64 0]∧Hold W9 (w.heap.size+1+1+1) #[.int .i64 0]∧
    MsgPost T w (.returned (.tuple #[.pointer (some ⟨w.heap.size+1+1+1+1,0,none⟩),.agg #[.int .i64 0,.int .i64 0],.int .i64 0])) W9:=by
 rintro W9 rfl hK
 refine ⟨?_,?_,?_,?_,.inl ⟨_,rfl,?_,h.ok⟩⟩
 ·have a1:=h.h1.set 0 (.pointer (some ⟨w.heap.size+1+1+1+1,0,none⟩))
  simp only [List.setIfInBounds_toArray,List.set_cons_zero] at a1
  exact (((a1.other _ _ (by dsimp only;omega)).other _ _ (by dsimp only;omega)).other _ _ (by dsimp only;omega)).putObj _ _ (by omega)
 ·have a1:=h.h2.other ⟨w.heap.size+1,0,none⟩ (.pointer (some ⟨w.heap.size+1+1+1+1,0,none⟩)) (by dsimp only;omega)
  have a2:=(a1.set 0 (.int .i64 0)).set 1 (.int .i64 0)
  simp only [List.setIfInBounds_toArray,List.set_cons_zero,List.set_cons_succ] at a2
  exact (a2.other _ _ (by dsimp only;omega)).putObj _ _ (by omega)
 ·have a1:=((h.h3.other ⟨w.heap.size+1,0,none⟩ (.pointer (some ⟨w.heap.size+1+1+1+1,0,none⟩)) (by dsimp only;omega)).other ⟨w.heap.size+1+1,0,none⟩ (.int .i64 0) (by dsimp only;omega)).other ⟨w.heap.size+1+1,1,none⟩ (.int .i64 0) (by dsimp only;omega)
  have a2:=a1.set 0 (.int .i64 0)
  simp only [List.setIfInBounds_toArray,List.set_cons_zero] at a2
  exact a2.putObj _ _ (by omega)
 ·have a1:=(((h.bl.setCell (p:=⟨w.heap.size+1,0,none⟩) (by dsimp only;omega) (.pointer (some ⟨w.heap.size+1+1+1+1,0,none⟩))).setCell (p:=⟨w.heap.size+1+1,0,none⟩) (by dsimp only;omega) (.int .i64 0)).setCell (p:=⟨w.heap.size+1+1,1,none⟩) (by dsimp only;omega) (.int .i64 0)).setCell (p:=⟨w.heap.size+1+1+1,0,none⟩) (by dsimp only;omega) (.int .i64 0)
  refine a1.trans (belowK_b (w:=w) (Nat.le_refl _) _ D (.deferred (some [])) _ (by omega) ?_ rfl rfl)
  rw [Below.heap_setCell _ _ _ _ (by dsimp only;omega),Below.heap_setCell _ _ _ _ (by dsimp only;omega),Below.heap_setCell _ _ _ _ (by dsimp only;omega),Below.heap_setCell _ _ _ _ (by dsimp only;omega)]
  exact hK
 ·exact ((((h.lt.other _ _ (by dsimp only;omega)).other _ _ (by dsimp only;omega)).other _ _ (by dsimp only;omega)).other _ _ (by dsimp only;omega)).putObj _ _ (by omega)
theorem msg_results (tmps : Array Value) (W : World) (b1 b2 b3 : Nat) (v1 x y z : Value) (t1 : tmps[2]? = some (.pointer (some ⟨b1, 0, none⟩))) (t2 : tmps[3]? = some (.pointer (some ⟨b2, 0, none⟩))) (t3 : tmps[4]? = some (.pointer (some ⟨b3, 0, none⟩)))
    (c1:W.cell? ⟨b1,0,none⟩=some v1) (c2:W.cell? ⟨b2,0,none⟩=some x) (c2':W.cell? ⟨b2,1,none⟩=some y) (c3:W.cell? ⟨b3,0,none⟩=some z) :
    (results Tryz.f133 tmps).run Tryz.prog W=.ok (.tuple #[v1,.agg #[x,y],z]) W:=by
 simp [results,Tryz.results133,go_sem,t1,t2,t3,c1,c2,c2',c3]
theorem MsgA.own (T:TM) (w w0:World) (x:T.toTr.Id) (a':Act):OwnFrom w0.heap.size (fun (_:Unit) W=>∃ bx,MsgA T w x bx W∧a'=msgFrame T w x bx):=by
 intro s W W' row ⟨bx,⟨h1,h2,h3⟩,e⟩ hg hr
 exact ⟨bx,⟨Hold.own _ _ (fun _=>_) s W W' row h1 hg hr,Hold.own _ _ (fun _=>_) s W W' row h2 hg hr,h3⟩,e⟩
theorem MsgI.ext {T:TM} {w:World} {pre:List T.toTr.Id} {W W':World} (h:MsgI T w pre W) (x:Ext W W'):MsgI T w pre W':=
 ⟨h.lt.ext x,h.h0.ext x,h.h1.ext x,h.h2.ext x,h.h3.ext x,h.h5.ext x,h.bl.trans (Below.mono x h.bl.size),h.ok⟩
abbrev TM.evc (T:TM) (k i:Nat):Array Value:=#[.int .i64 (T.kind k i),.int .i64 (T.peer k i),.int .i64 (T.msg k i),.int .i64 (T.time k i),.slice (T.aa k i) (T.an k i) (T.ac k i)]
theorem MsgA.new {T : TM} {w : World} {pre : List T.toTr.Id} {W : World} (h : MsgI T w pre W) {x : T.toTr.Id} {t u : TypeId} :
    MsgA T w x W.heap.size ((W.alloc (.cells #[.int .i64 x.1.1,.int .i64 (x.1.2+1)] t)).alloc (.cells (T.evc x.1.1 x.1.2) u)):=by
 refine ⟨Hold.ext (W:=W.alloc (.cells #[.int .i64 x.1.1,.int .i64 (x.1.2+1)] t)) ⟨t,?_⟩ (Ext.alloc _ _),⟨u,?_⟩,h.h5.lt⟩
 ·show (W.heap.push _)[W.heap.size]?=_;simp
 ·show ((W.heap.push _).push _)[W.heap.size+1]?=_
  rw [Array.getElem?_push,if_pos (by simp)]
set_option maxHeartbeats 8000000 in
theorem messageFault_any (w : World) (T : TM) (hT : T.At w) (hE : ∀ k i, k < T.n → i < T.en k → T.EvOk k i) :
    Calls Tryz.prog 133 #[T.val] w (MsgPost T w):=by
 refine (callsIn_wide (n:=4)).1 ?_
 have HT:=Lib.hid hT
 have HE:=Lib.hid hE
 clear hT hE
 refine callsIn_of_wp_marks Tryz.func133 rfl trivial ?_ rfl
 simp only [Tryz.ntmps133,List.size_toArray,List.length_cons,List.length_nil,Nat.reduceAdd,Nat.reduceSub,Array.replicate_succ,Array.replicate_zero,List.push_toArray,List.append_toArray,List.nil_append,List.cons_append]
 gi_upto_region 2 with fail
 refine boxed6 (w:=w) (G:=fun x=>Code.wpIn _ _ _ _ _ _ x) ?_
 intro w1 hx1 hs1 ⟨l0,c0,_,k0⟩ ⟨l1,c1,_,k1⟩ ⟨l2,c2,_,k2⟩ ⟨l3,c3,_,k3⟩ ⟨l4,_,_,k4⟩ ⟨l5,c5,_,k5⟩
 have hx11:Ext w1 w1:=Ext.refl _
 have hev:=events_any T w1
 rw [hs1] at hev
 have HS:=Lib.hid hs1
 clear hs1 c1 c2 c3 c5
 gi_wp2_with (refine ⟨trivial,?_⟩;gi_at_call 131;refine (CallsIn.mono (callsIn_wide.2 hev) ?_);rintro e w' ⟨rfl,rfl⟩)
 clear hev hx11 c0
 obtain ⟨w2,hw2⟩:∃ w2,w2=w1.alloc (.cells #[.slice T.a T.n T.cap] 24):=⟨_,rfl⟩
 rw [←hw2]
 have hx12:Ext w1 w2:=by rw [hw2];exact Ext.alloc _ _
 have hbn:w2.cell? ⟨w.heap.size+1+1+1+1+1+1,0,none⟩=some (.slice T.a T.n T.cap):=by rw [hw2,←HS.out];simp
 have hsz:w2.heap.size=w.heap.size+7:=by rw [hw2];simp;have:=HS.out;omega
 clear hw2 HS
 have HSZ:=Lib.hid hsz
 clear hsz
 refine wpIn_rangeFunc_ownH rfl (by omega) (gf:=180) (lb:=#[.pointer (some ⟨w.heap.size+1+1+1+1+1+1,0,none⟩)]) rfl trivial (enters_of Tryz.func180 (by kernel_rfl) rfl)
  (events_stops 3 (by omega) (w.heap.size+1+1+1+1+1+1) T w w2 HT.out (hx1.trans hx12) hbn) belowK_t (belowK_b (by have:=HSZ.out;omega)) (Below.refl _ _) (fun _=>rfl)
  (MsgI T w) (fun c pre W=>c=.ret∧MsgX T w pre W) (MsgI.own T w w2 (by have:=HSZ.out;omega)) (fun c=>OwnFrom.and (ownFrom_pure _ (fun _=>c=.ret)) (MsgX.own T w w2 (by have:=HSZ.out;omega)))
  ⟨(Ltr.zero_at k4).ext hx12,Hold.ext k0 hx12,Hold.ext k1 hx12,Hold.ext k2 hx12,Hold.ext k3 hx12,Hold.ext k5 hx12,hx1.trans hx12,fun pre x h=>by simp at h⟩
  (fun x a' W=>∃ bx,MsgA T w x bx W∧a'=msgFrame T w x bx) (fun x a'=>MsgA.own T w w2 x a') ?assign ?body ?done ?stop
 case assign=>
  rintro l pre x W K hI hK
  gi_wp2
  have hx:Ext W ((W.alloc (.cells #[.int .i64 x.1.1,.int .i64 (x.1.2+1)] 70)).alloc (.cells (T.evc x.1.1 x.1.2) 75)):=(Ext.alloc _ _).alloc' _
  exact hK _ _ (hx.keepsFrom _) (Below.mono hx hI.bl.size) (hI.ext hx) ⟨W.heap.size,MsgA.new hI,rfl⟩
 case body=>
  rintro l pre x a' W hl ⟨r,hr⟩ hI ⟨bx,hA,rfl⟩ hlt
  obtain ⟨lt,h0,h1,h2,h3,h5,bl,ok⟩:=hI
  obtain ⟨hx,hy,hbx⟩:=hA
  obtain ⟨⟨k,i⟩,hk,hi⟩:=x
  have hEv:=HE.out k i hk hi
  obtain ⟨x0,d0,f0,_⟩:=h0.box
  obtain ⟨x1,d1,f1,_⟩:=h1.box
  obtain ⟨x2,d2,f2,_⟩:=h2.box
  obtain ⟨x3,d3,f3,_⟩:=h3.box
  obtain ⟨x5,d5,f5,_⟩:=h5.box
  obtain ⟨xx,dx,fx,_⟩:=hx.box
  obtain ⟨xy,dy,fy,_⟩:=hy.box
  have hWW:Ext W W:=Ext.refl _
  clear l0 l1 l2 l3 l4 l5 k0 k1 k2 k3 k4 k5 hbn
  dsimp only at d0 d1 d2 d3 d5 dx dy xx xy
  by_cases hk2:T.kind k i=2
  ·obtain ⟨m,hm,hm2⟩:∃ m:Nat,T.msg k i=m∧m<200:=⟨(T.msg k i).toNat,by rcases hEv.1 with h | h <;> omega,by rcases hEv.1 with h | h <;> omega⟩
   have HM:=Lib.hid hm
   have hm3:(m:Int)<200:=by omega
   obtain ⟨q0',q1',q2',q3',qf⟩:=lt
   have q0:=q0' m hm2
   have q1:=q1' m hm2
   have q2:=q2' m hm2
   have q3:=q3' m hm2
   have HEv:=Lib.hid hEv
   clear hEv
   have HI:=Lib.hid (MsgI.mk (T:=T) (w:=w) (pre:=pre) (W:=W) ⟨q0',q1',q2',q3',qf⟩ h0 h1 h2 h3 h5 bl ok)
   clear q0' q1' q2' q3' h0 h1 h2 h3 h5 bl ok
   by_cases hfi:0<(Ltr.of T.toTr pre).fi m
   ·have HN:=Lib.hid (show ¬T.toTr.NoFault pre ⟨(k,i),hk,hi⟩ from fun h=>by have:=h.1 hk2;rw [show T.msg k i=m from HM.out,Int.toNat_natCast] at this;omega)
    have R:=Lib.hid (msg_ret w2.heap.size HI.out (x:=⟨(k,i),hk,hi⟩) k (i+1) 8 (by decide) HN.out)
    clear HI HN HT HE HEv HM
    gi_upto_region 9 with fail
    gi_region
    all_goals gi_wp2
    all_goals exact ⟨R.out.1,rfl,R.out.2⟩
   ·have HN:=Lib.hid (show T.toTr.NoFault pre ⟨(k,i),hk,hi⟩ from ⟨fun _=>by rw [show T.msg k i=m from HM.out,Int.toNat_natCast];omega,fun h=>absurd (hk2.symm.trans h) (by decide)⟩)
    have R:=Lib.hid (msg_from w2.heap.size HI.out (x:=⟨(k,i),hk,hi⟩) hk2 HM.out hm2 HN.out)
    clear HI HN HT HE HEv HM
    gi_upto_region 10 with fail
    gi_region
    all_goals gi_wp2
    all_goals exact R.out
  ·by_cases hk3:T.kind k i=3
   ·obtain ⟨m,hm,hm2⟩:∃ m:Nat,T.msg k i=m∧m<200:=⟨(T.msg k i).toNat,by rcases hEv.1 with h | h <;> omega,by rcases hEv.1 with h | h <;> omega⟩
    obtain ⟨p,hp,hp2⟩:∃ p:Nat,T.peer k i=p∧p<T.n:=⟨(T.peer k i).toNat,by rcases hEv.1 with h | h <;> omega,by rcases hEv.1 with h | h <;> omega⟩
    have HM:=Lib.hid hm
    have HP:=Lib.hid hp
    have hm3:(m:Int)<200:=by omega
    have q0:=fun w' (h:Ext W w')=>(lt.ext h).c0 m hm2
    have q1:=fun w' (h:Ext W w')=>(lt.ext h).c1 m hm2
    have q2:=fun w' (h:Ext W w')=>(lt.ext h).c2 m hm2
    have q3:=fun w' (h:Ext W w')=>(lt.ext h).c3 m hm2
    have qf:=fun w' (h:Ext W w')=>(lt.ext h).fr
    have HI:=Lib.hid (MsgI.mk (T:=T) (w:=w) (pre:=pre) (W:=W) lt h0 h1 h2 h3 h5 bl ok)
    have hS:=sends_any W T (HT.out.ext bl) p hp2 m k
    clear lt h0 h1 h2 h3 h5 bl ok hEv
    by_cases hti:0<(Ltr.of T.toTr pre).ti m
    ·have HN:=Lib.hid (show ¬T.toTr.NoFault pre ⟨(k,i),hk,hi⟩ from fun h=>by have:=(h.2 hk3).1;rw [show T.msg k i=m from HM.out,Int.toNat_natCast] at this;omega)
     have R:=Lib.hid (msg_ret w2.heap.size HI.out (x:=⟨(k,i),hk,hi⟩) k (i+1) 8 (by decide) HN.out)
     clear HI HN HT HE HM HP hS
     gi_upto_region 13 with fail
     gi_region
     all_goals gi_wp2
     all_goals exact ⟨R.out.1,rfl,R.out.2⟩
    ·cases hsb:T.sendsB p m k with
     | false =>
      rw [hsb] at hS
      have HN:=Lib.hid (show ¬T.toTr.NoFault pre ⟨(k,i),hk,hi⟩ from fun h=>by have:=(h.2 hk3).2;dsimp only at this;rw [HM.out,HP.out,Int.toNat_natCast,hsb] at this;cases this)
      gi_wp2_with (refine ⟨trivial,?_⟩;gi_at_call 184;refine (CallsIn.mono (CallsIn.inRound l (callsIn_wide.2 hS)) ?_);rintro e w5 ⟨rfl,hx5⟩)
      have R:=Lib.hid (msg_ret w2.heap.size (HI.out.ext hx5) (x:=⟨(k,i),hk,hi⟩) k (i+1) 7 (by decide) HN.out)
      have R2:=Lib.hid (hx5.keepsFrom w2.heap.size)
      clear HI HN HT HE HM HP hS
      gi_region
      all_goals gi_wp2
      all_goals exact ⟨R2.out.trans R.out.1,rfl,R.out.2⟩
     | true =>
      rw [hsb] at hS
      have HN:=Lib.hid (show T.toTr.NoFault pre ⟨(k,i),hk,hi⟩ from ⟨fun h=>absurd h hk2,fun _=>⟨by dsimp only;rw [HM.out,Int.toNat_natCast];omega,by dsimp only;rw [HM.out,HP.out,Int.toNat_natCast,hsb]⟩⟩)
      gi_wp2_with (refine ⟨trivial,?_⟩;gi_at_call 184;refine (CallsIn.mono (CallsIn.inRound l (callsIn_wide.2 hS)) ?_);rintro e w5 ⟨rfl,hx5⟩)
      have R:=Lib.hid (msg_to w2.heap.size (HI.out.ext hx5) (x:=⟨(k,i),hk,hi⟩) hk3 HM.out hm2 HN.out)
      have R2:=Lib.hid (hx5.keepsFrom w2.heap.size)
      have R3:=Lib.hid (Below.mono hx5 HI.out.bl.size)
      clear HI HN HT HE HM HP hS
      gi_region
      all_goals gi_wp2
      all_goals exact ⟨R2.out.trans R.out.1,R3.out.trans R.out.2.1,R.out.2.2⟩
   ·have HI:=Lib.hid (MsgI.mk (T:=T) (w:=w) (pre:=pre++[⟨(k,i),hk,hi⟩]) (W:=W) (by rw [Ltr.of_snoc];unfold Ltr.step;rw [if_neg hk2,if_neg hk3];exact lt) h0 h1 h2 h3 h5 bl (ok.snoc ⟨fun h=>absurd h hk2,fun h=>absurd h hk3⟩))
    clear lt h0 h1 h2 h3 h5 bl ok
    gi_wp2
    exact ⟨KeepsFrom.refl _ _,Below.refl _ _,HI.out⟩
 case done=>
  rintro D xs W hD rfl hI hK
  obtain ⟨lt,h0,h1,h2,h3,h5,bl,ok⟩:=hI
  obtain ⟨_,d1,f1,_⟩:=h1.box
  obtain ⟨_,d2,f2,_⟩:=h2.box
  obtain ⟨_,d3,f3,_⟩:=h3.box
  obtain ⟨_,d5,f5,_⟩:=h5.box
  have hWW:Ext W W:=Ext.refl _
  clear l0 l1 l2 l3 l4 l5 k0 k1 k2 k3 k4 k5
  gi_wp2
  have hD':w.heap.size+7≤D:=by have:=HSZ.out;omega
  have HI:=Lib.hid (msg_done (MsgI.mk lt h0 h1 h2 h3 h5 bl ok) D hD' _ rfl hK)
  refine ⟨by simp,.inl ⟨_,_,rfl,run_takeDeferred (ds:=[]) ?_,?_⟩⟩
  ·rw [Below.heap_setCell _ _ _ _ (by dsimp only;omega),Below.heap_setCell _ _ _ _ (by dsimp only;omega),Below.heap_setCell _ _ _ _ (by dsimp only;omega),Below.heap_setCell _ _ _ _ (by dsimp only;omega)]
   exact hK
  ·obtain ⟨g1,g2,g3,g4⟩:=HI.out
   exact ⟨_,msg_results _ _ _ _ _ _ _ _ _ rfl rfl rfl (g1.cell0 0) (g2.cell0 0) (g2.cell0 1) (g3.cell0 0),g4⟩
 case stop=>
  rintro D c pre W hD hpre hX hK
  obtain ⟨rfl,⟨p,q,cc,hcc,h1,h2,h3⟩,bl,bad⟩:=hX
  have hD':w.heap.size+7≤D:=by have:=HSZ.out;omega
  have g1:=h1.putObj D (.deferred none) (by omega)
  have g2:=h2.putObj D (.deferred none) (by omega)
  have g3:=h3.putObj D (.deferred none) (by omega)
  have hbl:Ext w (W.putObj D (.deferred none)):=bl.trans (belowK_b (w:=w) (Nat.le_refl _) W D (.deferred (some [])) _ (by omega) hK rfl rfl)
  have hb:¬T.toTr.OkList T.toTr.evs:=fun h=>bad (fun p x hp=>h p x (hp.trans hpre))
  clear l0 l1 l2 l3 l4 l5 k0 k1 k2 k3 k4 k5 h1 h2 h3 hpre
  gi_wp2
  refine ⟨by simp,.inl ⟨_,_,rfl,run_takeDeferred (ds:=[]) hK,?_⟩⟩
  exact ⟨_,msg_results _ _ _ _ _ _ _ _ _ rfl rfl rfl (g1.cell0 0) (g2.cell0 0) (g2.cell0 1) (g3.cell0 0),hbl,.inr ⟨p,q,cc,hcc,rfl,hb⟩⟩
end Go.Proofs.YtlfdfkbmollaaaaGreatDoor
