/- Contracts and laws in plain Lean for RApp: group P06. -/
import Derived.Test.YtmhapcnlpoilpaaGreatDoorP05
import Derived.Maps.AppendAt
import Derived.Deep.LoopGhost
import Derived.Test.YtmhapcnlpoilpaaGreatDoorP01
set_option maxRecDepth 100000
namespace Go.Proofs.YtmhapcnlpoilpaaGreatDoor
open Go.RowKit Go.Shelf
attribute [local go_sem] Oper.semAt_some
theorem Ltr.step_ok {T:Tr} {L:Ltr} (h:L.Ok T) (x:T.Id):(Ltr.step T L x).Ok T:=by
 intro m hm ht
 unfold Ltr.step at ht ⊢
 by_cases h2:T.kind x.1.1 x.1.2=2
 ·rw [if_pos h2] at ht ⊢;exact h m hm ht
 ·rw [if_neg h2] at ht ⊢
  by_cases h3:T.kind x.1.1 x.1.2=3
  ·rw [if_pos h3] at ht ⊢
   by_cases e:m=(T.msg x.1.1 x.1.2).toNat
   ·exact ⟨x.1.1,x.1.2,x.2.1,x.2.2,by simp [upd,e],by simp [upd,e]⟩
   ·simp only [upd,e,if_false] at ht ⊢;exact h m hm ht
  ·rw [if_neg h3] at ht ⊢;exact h m hm ht
theorem Ltr.foldl_ok {T:Tr}:∀ (l:List T.Id) (L:Ltr),L.Ok T→(l.foldl (Ltr.step T) L).Ok T
 | [],_,h => h
 | x :: l,_,h => Ltr.foldl_ok l _ (Ltr.step_ok h x)
theorem Ltr.of_ok (T:Tr) (l:List T.Id):(Ltr.of T l).Ok T:=Ltr.foldl_ok l _ (fun m _ h=>absurd h (by simp [Ltr.zero]))
theorem Tr.evsTo_len (T:Tr) (k i:Nat):(T.evsTo k i).length≤(T.evsTo k 0).length+i:=by
 unfold Tr.evsTo
 have:=List.length_filterMap_le (T.mk? k) (List.range i)
 simp only [List.length_append,List.length_range] at this ⊢
 simp;omega
theorem Tr.evs_len (T:Tr) (h:∀ k,k<T.n→T.en k≤64):∀ k,k≤T.n→(T.evsTo k 0).length≤64*k:=by
 intro k
 induction k with
 | zero => intro _;simp [Tr.evsTo]
 | succ k ih =>
  intro hk
  have h1:=ih (by omega)
  have h2:=T.evsTo_len k (T.en k)
  have h3:=h k (by omega)
  rw [T.evsTo_next] at h2
  omega
structure Tr.Valid (T:Tr):Prop where
 n1:1≤T.n
 n8:T.n≤8
 pr:∀ k,k<T.n→T.PrOk k
 ev:∀ k i,k<T.n→i<T.en k→T.EvOk k i
 msg:T.OkList T.evs
 acy:¬ ∃ x:T.Id,Path (T.succ (Ltr.of T T.evs)) x.1 x.1
def FaultPost (T:TM) (w:World) (e:Ending) (w':World):Prop:=Ext w w'∧∃ p q c:Int,e=.returned (.tuple #[.agg #[.int .i64 p,.int .i64 q],.int .i64 c])∧(c=0↔T.toTr.Valid)
structure FauI (T:TM) (w:World) (pre:List T.toTr.Id) (W:World):Prop where
 h0:Hold W w.heap.size #[.slice T.a T.n T.cap]
 h1:Hold W (w.heap.size+1) #[.int .i64 0,.int .i64 0]
 h2:Hold W (w.heap.size+1+1) #[.int .i64 0]
 bl:Below w.heap.size w W
 ok:∀ x,x∈pre→T.toTr.EvOk x.1.1 x.1.2
structure FauX (T:TM) (w:World) (pre:List T.toTr.Id) (W:World):Prop where
 res:∃ p q c:Int,c≠0∧Hold W (w.heap.size+1) #[.int .i64 p,.int .i64 q]∧Hold W (w.heap.size+1+1) #[.int .i64 c]
 bl:Below w.heap.size w W
 bad:∃ x:T.toTr.Id,¬T.toTr.EvOk x.1.1 x.1.2
theorem FauI.own (T:TM) (w w0:World) (h:w.heap.size≤w0.heap.size):OwnFrom w0.heap.size (FauI T w):=by
 intro s W W' row hi hg hr
 exact ⟨Hold.own _ _ (fun _=>_) s W W' row hi.h0 hg hr,Hold.own _ _ (fun _=>_) s W W' row hi.h1 hg hr,Hold.own _ _ (fun _=>_) s W W' row hi.h2 hg hr,ownFrom_below (Nat.le_refl _) h s W W' row hi.bl hg hr,hi.ok⟩
theorem FauX.own (T:TM) (w w0:World) (h:w.heap.size≤w0.heap.size):OwnFrom w0.heap.size (FauX T w):=by
 intro s W W' row ⟨⟨p,q,c,hc,a,b⟩,hb,hbad⟩ hg hr
 exact ⟨⟨p,q,c,hc,Hold.own _ _ (fun _=>_) s W W' row a hg hr,Hold.own _ _ (fun _=>_) s W W' row b hg hr⟩,ownFrom_below (Nat.le_refl _) h s W W' row hb hg hr,hbad⟩
theorem FauI.ext {T:TM} {w:World} {pre:List T.toTr.Id} {W W':World} (h:FauI T w pre W) (x:Ext W W'):FauI T w pre W':=
 ⟨h.h0.ext x,h.h1.ext x,h.h2.ext x,h.bl.trans (Below.mono x h.bl.size),h.ok⟩
structure FauA (T:TM) (w:World) (x:T.toTr.Id) (bx:Nat) (W:World):Prop where
 hx:Hold W bx #[.int .i64 x.1.1,.int .i64 (x.1.2+1)]
 hy:Hold W (bx+1) (T.evc x.1.1 x.1.2)
 lt:w.heap.size+1+1<bx
theorem FauA.new {T : TM} {w : World} {pre : List T.toTr.Id} {W : World} (h : FauI T w pre W) {x : T.toTr.Id} {t u : TypeId} :
    FauA T w x W.heap.size ((W.alloc (.cells #[.int .i64 x.1.1,.int .i64 (x.1.2+1)] t)).alloc (.cells (T.evc x.1.1 x.1.2) u)):=by
 refine ⟨Hold.ext (W:=W.alloc (.cells #[.int .i64 x.1.1,.int .i64 (x.1.2+1)] t)) (Hold.new _ _ _) (Ext.alloc _ _),⟨u,?_⟩,h.h2.lt⟩
 show ((W.heap.push _).push _)[W.heap.size+1]?=_
 rw [Array.getElem?_push,if_pos (by simp)]
theorem fau_results (tmps : Array Value) (W : World) (b2 b3 : Nat) (x y z : Value) (t2 : tmps[2]? = some (.pointer (some ⟨b2, 0, none⟩))) (t3 : tmps[3]? = some (.pointer (some ⟨b3, 0, none⟩)))
    (c2:W.cell? ⟨b2,0,none⟩=some x) (c2':W.cell? ⟨b2,1,none⟩=some y) (c3:W.cell? ⟨b3,0,none⟩=some z) :
    (results Tryz.f83 tmps).run Tryz.prog W=.ok (.tuple #[.agg #[x,y],z]) W:=by
 simp [results,Tryz.results83,go_sem,t2,t3,c2,c2',c3]
theorem fau_set {w W : World} (h1 : Hold W (w.heap.size + 1) #[.int .i64 0, .int .i64 0]) (h2 : Hold W (w.heap.size + 1 + 1) #[.int .i64 0]) (bl : Below w.heap.size w W) (p q c : Int) :
    ∀ W9,W9=((W.setCell ⟨w.heap.size+1,0,none⟩ (.int .i64 p)).setCell ⟨w.heap.size+1,1,none⟩ (.int .i64 q)).setCell ⟨w.heap.size+1+1,0,none⟩ (.int .i64 c)→
    Hold W9 (w.heap.size+1) #[.int .i64 p,.int .i64 q]∧Hold W9 (w.heap.size+1+1) #[.int .i64 c]∧Below w.heap.size w W9∧(∀ B,KeepsFrom B W W9)∧(∀ D,w.heap.size+3≤D→W9.heap[D]?=W.heap[D]?):=by
 rintro W9 rfl
 refine ⟨?_,?_,?_,fun B=>((keeps_set _ _ _ _).trans (keeps_set _ _ _ _)).trans (keeps_set _ _ _ _),fun D hD=>?_⟩
 ·have a2:=(h1.set 0 (.int .i64 p)).set 1 (.int .i64 q)
  simp only [List.setIfInBounds_toArray,List.set_cons_zero,List.set_cons_succ] at a2
  exact a2.other _ _ (by dsimp only;omega)
 ·have a1:=(h2.other ⟨w.heap.size+1,0,none⟩ (.int .i64 p) (by dsimp only;omega)).other ⟨w.heap.size+1,1,none⟩ (.int .i64 q) (by dsimp only;omega)
  have a2:=a1.set 0 (.int .i64 c)
  simp only [List.setIfInBounds_toArray,List.set_cons_zero] at a2
  exact a2
 ·exact ((bl.setCell (by dsimp only;omega) _).setCell (by dsimp only;omega) _).setCell (by dsimp only;omega) _
 ·rw [Below.heap_setCell _ _ _ _ (by dsimp only;omega),Below.heap_setCell _ _ _ _ (by dsimp only;omega),Below.heap_setCell _ _ _ _ (by dsimp only;omega)]
theorem fau_end {T : TM} {w W W5 : World} (h1 : Hold W (w.heap.size + 1) #[.int .i64 0, .int .i64 0]) (h2 : Hold W (w.heap.size + 1 + 1) #[.int .i64 0]) (bl : Below w.heap.size w W) (hx : Ext W W5) (p q c : Int) (D : Nat) (hD : w.heap.size + 3 ≤ D) (hK : W.heap[D]? = some (.deferred (some [])))
    (hv:c=0↔T.toTr.Valid) :
    ∀ W9 W8,W8=((W5.setCell ⟨w.heap.size+1,0,none⟩ (.int .i64 p)).setCell ⟨w.heap.size+1,1,none⟩ (.int .i64 q)).setCell ⟨w.heap.size+1+1,0,none⟩ (.int .i64 c)→Ext W8 W9→
    W9.heap[D]?=some (.deferred (some []))∧(W9.putObj D (.deferred none)).cell? ⟨w.heap.size+1,0,none⟩=some (.int .i64 p)∧(W9.putObj D (.deferred none)).cell? ⟨w.heap.size+1,1,none⟩=some (.int .i64 q)∧(W9.putObj D (.deferred none)).cell? ⟨w.heap.size+1+1,0,none⟩=some (.int .i64 c)∧
    FaultPost T w (.returned (.tuple #[.agg #[.int .i64 p,.int .i64 q],.int .i64 c])) (W9.putObj D (.deferred none)):=by
 intro W9 W8 hW8 hx9
 obtain ⟨g1,g2,g3,-,g5⟩:=fau_set (Hold.ext h1 hx) (Hold.ext h2 hx) (bl.trans (Below.mono hx bl.size)) p q c W8 hW8
 have hlt:D<W.heap.size:=(Array.getElem?_eq_some_iff.1 hK).1
 have k8:W8.heap[D]?=some (.deferred (some [])):=(g5 D hD).trans ((hx.block D hlt).trans hK)
 have k9:W9.heap[D]?=some (.deferred (some [])):=(hx9.block D (Array.getElem?_eq_some_iff.1 k8).1).trans k8
 have e1:=(g1.ext hx9).putObj D (.deferred none) (by omega)
 have e2:=(g2.ext hx9).putObj D (.deferred none) (by omega)
 refine ⟨k9,e1.cell0 0,e1.cell0 1,e2.cell0 0,?_,p,q,c,rfl,hv⟩
 exact (g3.trans (Below.mono hx9 g3.size)).trans (belowK_b (w:=w) (Nat.le_refl _) W9 D (.deferred (some [])) _ (by omega) k9 rfl rfl)
set_option maxHeartbeats 8000000 in
theorem fault_any (w : World) (T : TM) (hT : T.At w) :
    Calls Tryz.prog 83 #[T.val] w (FaultPost T w):=by
 refine (callsIn_wide (n:=4)).1 ?_
 have hn:=hT.P.hn
 have HT:=Lib.hid hT
 clear hT
 refine callsIn_of_wp_marks Tryz.func83 rfl trivial ?_ rfl
 simp only [Tryz.ntmps83,List.size_toArray,List.length_cons,List.length_nil,Nat.reduceAdd,Nat.reduceSub,Array.replicate_succ,Array.replicate_zero,List.push_toArray,List.append_toArray,List.nil_append,List.cons_append]
 gi_upto_region 1 with fail
 refine boxed3 (w:=w) (G:=fun x=>Code.wpIn _ _ _ _ _ _ x) ?_
 intro w1 hx1 hs1 ⟨l0,c0,_,k0⟩ ⟨l1,c1,f1,k1⟩ ⟨l2,c2,f2,k2⟩
 have hx11:Ext w1 w1:=Ext.refl _
 have HS:=Lib.hid hs1
 clear hs1
 cases hin:inB (T.n:Int) 1 8 with
 | false =>
  gi_wp2_with (refine ⟨trivial,?_⟩;gi_at_call 133;refine (CallsIn.mono (callsIn_wide.2 (in_any _ _ _ _)) ?_);rintro e w' ⟨rfl,rfl⟩)
  obtain ⟨g1,g2,g3,-⟩:=fau_set k1 k2 hx1 0 0 1 _ rfl
  exact ⟨_,fau_results _ _ _ _ _ _ _ rfl rfl (g1.cell0 0) (g1.cell0 1) (g2.cell0 0),g3,0,0,1,rfl,⟨fun h=>absurd h (by decide),fun h=>by have:=h.n1;have:=h.n8;simp [inB] at hin;omega⟩⟩
 | true =>
  have hn8:1≤T.n∧T.n≤8:=by simp [inB] at hin;omega
  gi_wp2_with (refine ⟨trivial,?_⟩;gi_at_call 133;refine (CallsIn.mono (callsIn_wide.2 (in_any _ _ _ _)) ?_);rintro e w' ⟨rfl,rfl⟩)
  gi_loopw [23] (fun v wr=>∃ k:Nat,k≤T.n∧v=.int .i64 k∧Ext w1 wr∧∀ j,j<k→T.toTr.PrOk j) (fun v _=>T.n - (intOf v).toNat)
  case atStart=>exact ⟨0,Nat.zero_le _,rfl,hx11,fun j hj=>absurd hj (Nat.not_lt_zero _)⟩
  case round=>
   obtain ⟨k,hk,rfl,hxr,hok⟩:=hrel
   have HOK:=Lib.hid hok
   clear hok hx11
   have hxw:Ext w wr:=hx1.trans hxr
   by_cases hlt:k<T.n
   ·by_cases hpk:T.toTr.PrOk k
    ·have hP:Calls Tryz.prog 134 #[T.val,.int .i64 k] wr fun e w'=>e=.returned (.int .i64 0)∧Ext wr w':=(processFault_any wr T (HT.out.ext hxw) k hlt).mono fun e w' ⟨c,he,hc,hx⟩=>⟨by rw [he,hc.2 hpk],hx⟩
     gi_wp2_with (refine ⟨trivial,?_⟩;gi_at_call 134;refine (CallsIn.mono (callsIn_wide.2 hP) ?_);rintro e w5 ⟨rfl,hx5⟩)
     go_roundw
     case rel=>exact ⟨k+1,by omega,by go_num,hxr.trans hx5,fun j hj=>by
      by_cases e:j=k
      ·subst e;exact hpk
      ·exact HOK.out j (by omega)⟩
     case measure=>simp [intOf];omega
    ·have hP:Calls Tryz.prog 134 #[T.val,.int .i64 k] wr fun e w'=>∃ c:Int,e=.returned (.int .i64 c)∧(c != 0)=true∧Ext wr w':=(processFault_any wr T (HT.out.ext hxw) k hlt).mono fun e w' ⟨c,he,hc,hx⟩=>⟨c,he,by simpa using (fun h=>hpk (hc.1 h)),hx⟩
     gi_wp2_with (refine ⟨trivial,?_⟩;gi_at_call 134;refine (CallsIn.mono (callsIn_wide.2 hP) ?_);rintro e w5 ⟨c,rfl,hc,hx5⟩;have hx15:=hxr.trans hx5)
     obtain ⟨g1,g2,g3,-⟩:=fau_set (Hold.ext k1 hx15) (Hold.ext k2 hx15) (hx1.trans hx15) k 0 c _ rfl
     exact ⟨_,fau_results _ _ _ _ _ _ _ rfl rfl (g1.cell0 0) (g1.cell0 1) (g2.cell0 0),g3,k,0,c,rfl,⟨fun h=>absurd h (by simpa using hc),fun h=>absurd (h.pr k hlt) hpk⟩⟩
   ·have HOK2:=Lib.hid (show ∀ j,j<T.n→T.toTr.PrOk j from fun j hj=>HOK.out j (by omega))
    clear HOK
    have hev:=events_any T wr
    gi_wp2_with (refine ⟨trivial,?_⟩;gi_at_call 135;refine (CallsIn.mono (callsIn_wide.2 hev) ?_);rintro e w' ⟨rfl,rfl⟩)
    clear hev
    obtain ⟨w2,hw2⟩:∃ w2,w2=wr.alloc (.cells #[.slice T.a T.n T.cap] 24):=⟨_,rfl⟩
    rw [←hw2]
    have hx12:Ext wr w2:=by rw [hw2];exact Ext.alloc _ _
    have hbn:w2.cell? ⟨wr.heap.size,0,none⟩=some (.slice T.a T.n T.cap):=by rw [hw2];simp
    have hsz:w.heap.size+3≤w2.heap.size:=by rw [hw2];simp;have:=HS.out;have:=hxr.le;omega
    have hx1w2:=hxr.trans hx12
    have hI0:FauI T w [] w2:=⟨Hold.ext k0 hx1w2,Hold.ext k1 hx1w2,Hold.ext k2 hx1w2,hx1.trans hx1w2,fun x h=>by cases h⟩
    have HSZ:=Lib.hid hsz
    clear hw2 hsz
    refine wpIn_rangeFunc_ownH rfl (by omega) (gf:=177) (lb:=#[.pointer (some ⟨wr.heap.size,0,none⟩)]) rfl trivial (enters_of Tryz.func177 (by kernel_rfl) rfl)
     (events_stops 3 (by omega) wr.heap.size T w w2 HT.out (hx1.trans hx1w2) hbn) belowK_t (belowK_b (by have:=HSZ.out;omega)) (Below.refl _ _) (fun _=>rfl)
     (FauI T w) (fun c pre W=>c=.ret∧FauX T w pre W) (FauI.own T w w2 (by have:=HSZ.out;omega)) (fun c=>OwnFrom.and (ownFrom_pure _ (fun _=>c=.ret)) (FauX.own T w w2 (by have:=HSZ.out;omega))) hI0
     (fun x a' W=>∃ bx,FauA T w x bx W∧a'={ tmps:=#[T.val,.pointer (some ⟨w.heap.size,0,none⟩),.pointer (some ⟨w.heap.size+1,0,none⟩),.pointer (some ⟨w.heap.size+1+1,0,none⟩),u4,u5,.pointer (some ⟨bx,0,none⟩),.pointer (some ⟨bx+1,0,none⟩),undef,undef,undef,undef,undef,undef,.pointer (some ⟨w.heap.size,0,none⟩),.slice T.a T.n T.cap,.int .i64 T.n,.bool true,.bool false,undef,.pointer (some ⟨w.heap.size,0,none⟩),.slice T.a T.n T.cap,.int .i64 T.n,.int .i64 k,.bool false,u25,u26,u27,u28,u29,u30,u31,u32,u33,u34,.agg #[.slice T.a T.n T.cap],.func (.func 177) #[] #[.pointer (some ⟨wr.heap.size,0,none⟩)],.agg #[.int .i64 x.1.1,.int .i64 (x.1.2+1)],T.ev x.1.1 x.1.2,undef,undef,undef,undef,undef,undef,undef,undef,undef,undef,undef,undef,undef,undef,undef,undef,undef,undef,undef,undef,undef,undef,undef,undef,undef,undef,undef],defers:=[] }) (fun x a'=>by
      intro s W W' row ⟨bx,⟨h1,h2,h3⟩,e⟩ hg hr
      exact ⟨bx,⟨Hold.own _ _ (fun _=>_) s W W' row h1 hg hr,Hold.own _ _ (fun _=>_) s W W' row h2 hg hr,h3⟩,e⟩) ?assign ?body ?done ?stop
    case assign=>
     rintro l pre x W K hI hK
     gi_wp2
     have hx:Ext W ((W.alloc (.cells #[.int .i64 x.1.1,.int .i64 (x.1.2+1)] 47)).alloc (.cells (T.evc x.1.1 x.1.2) 58)):=(Ext.alloc _ _).alloc' _
     exact hK _ _ (hx.keepsFrom _) (Below.mono hx hI.bl.size) (hI.ext hx) ⟨W.heap.size,FauA.new hI,rfl⟩
    case body=>
     rintro l pre x a' W hl ⟨r,hr⟩ hI ⟨bx,hA,rfl⟩ hlt
     obtain ⟨⟨kk,i⟩,hkk,hi⟩:=x
     have HI:=Lib.hid hI
     obtain ⟨h0,h1,h2,bl,ok⟩:=hI
     obtain ⟨x0,d0,f0,_⟩:=h0.box
     obtain ⟨x1,d1,f1',_⟩:=h1.box
     obtain ⟨x2,d2,f2',_⟩:=h2.box
     obtain ⟨xx,dx,fx,_⟩:=hA.hx.box
     obtain ⟨xy,dy,fy,_⟩:=hA.hy.box
     have hWW:Ext W W:=Ext.refl _
     dsimp only at d0 d1 d2 dx dy
     clear l0 l1 l2 k0 k1 k2 hbn h0 h1 h2 ok hA c0 c1 c2 f1 f2 hI0
     by_cases hok:T.toTr.EvOk kk i
     ·have hE:Calls Tryz.prog 136 #[T.val,.agg #[.int .i64 kk,.int .i64 (i+1)],T.ev kk i] W fun e w'=>e=.returned (.int .i64 0)∧Ext W w':=(eventFault_any W T (HT.out.ext bl) kk i hkk hi).mono fun e w' ⟨c,he,hc,hx⟩=>⟨by rw [he,hc.2 hok],hx⟩
      gi_wp2_with (refine ⟨trivial,?_⟩;gi_at_call 136;refine (CallsIn.mono (CallsIn.inRound l (callsIn_wide.2 hE)) ?_);rintro e w5 ⟨rfl,hx5⟩)
      have hIx:=HI.out.ext hx5
      exact ⟨hx5.keepsFrom _,Below.mono hx5 bl.size,⟨hIx.h0,hIx.h1,hIx.h2,hIx.bl,fun z hz=>by
       rcases List.mem_append.1 hz with hz | hz
       ·exact HI.out.ok z hz
       ·simp at hz;subst hz;exact hok⟩⟩
     ·have hE:Calls Tryz.prog 136 #[T.val,.agg #[.int .i64 kk,.int .i64 (i+1)],T.ev kk i] W fun e w'=>∃ c:Int,e=.returned (.int .i64 c)∧(c != 0)=true∧Ext W w':=(eventFault_any W T (HT.out.ext bl) kk i hkk hi).mono fun e w' ⟨c,he,hc,hx⟩=>⟨c,he,by simpa using (fun h=>hok (hc.1 h)),hx⟩
      gi_wp2_with (refine ⟨trivial,?_⟩;gi_at_call 136;refine (CallsIn.mono (CallsIn.inRound l (callsIn_wide.2 hE)) ?_);rintro e w5 ⟨c,rfl,hc,hx5⟩)
      have hIx:=HI.out.ext hx5
      obtain ⟨g1,g2,g3,g4,-⟩:=fau_set hIx.h1 hIx.h2 hIx.bl kk (i+1) c _ rfl
      exact ⟨(hx5.keepsFrom _).trans (g4 _),rfl,⟨kk,i+1,c,by simpa using hc,g1,g2⟩,g3,⟨(kk,i),hkk,hi⟩,hok⟩
    case done=>
     rintro D xs W hD rfl hI hK
     obtain ⟨h0,h1,h2,bl,ok⟩:=hI
     have hD':w.heap.size+3≤D:=by have:=HSZ.out;omega
     have hE:∀ k i,k<T.n→i<T.en k→T.toTr.EvOk k i:=fun k i hk hi=>by
      have hm:=evs_mem (T:=T.toTr) (x:=(k,i)) ⟨hk,hi⟩
      obtain ⟨y,hy,e⟩:=List.mem_map.1 hm
      have:=ok y hy
      rw [e] at this;exact this
     have hcnt:T.toTr.evs.length≤1000000:=by
      have:=Tr.evs_len T.toTr (fun k hk=>(HOK2.out k hk).2.2.2.2) T.n (Nat.le_refl _)
      unfold Tr.evs;omega
     have HVm:=Lib.hid (messageFault_any W T (HT.out.ext bl) hE)
     have HE:=Lib.hid hE
     have HC:=Lib.hid hcnt
     have HOK3:=Lib.hid ok
     obtain ⟨x0,d0,f0,_⟩:=h0.box
     obtain ⟨x1,d1,f1',_⟩:=h1.box
     obtain ⟨x2,d2,f2',_⟩:=h2.box
     have hWW:Ext W W:=Ext.refl _
     have hDlt:D<W.heap.size:=(Array.getElem?_eq_some_iff.1 hK).1
     clear l0 l1 l2 k0 k1 k2 hbn c0 c1 c2 f1 f2 hI0 ok hE hcnt
     by_cases hm:T.toTr.OkList T.toTr.evs
     ·have hM : Calls Tryz.prog 137 #[T.val] W fun e w' => ∃ b, e = .returned (.tuple #[.pointer (some ⟨b, 0, none⟩), .agg #[.int .i64 0, .int .i64 0], .int .i64 0]) ∧ (Ltr.of T.toTr T.toTr.evs).At w' b ∧ Ext W w' :=
        HVm.out.mono fun e w' ⟨hx,h⟩=>by
         rcases h with ⟨b,he,hl,_⟩ | ⟨p,q,c,_,_,hn⟩
         ·exact ⟨b,he,hl,hx⟩
         ·exact absurd hm hn
      clear HVm
      by_cases hcy:∃ x:T.toTr.Id,Path (T.toTr.succ (Ltr.of T.toTr T.toTr.evs)) x.1 x.1
      ·gi_wp2_with (refine ⟨trivial,?_⟩;gi_at_call 137;refine (CallsIn.mono (callsIn_wide.2 hM) ?_);rintro e w5 ⟨b,rfl,hl5,hx5⟩;have hx55:=Ext.refl w5)
       have HVC:=Lib.hid (show ¬T.toTr.Valid from fun h=>h.acy hcy)
       have hC:∀ W',Ext w5 W'→Calls Tryz.prog 138 #[T.val,.pointer (some ⟨b,0,none⟩)] W' fun e w'=>∃ p q:Int,e=.returned (.tuple #[.agg #[.int .i64 p,.int .i64 q],.bool true])∧Ext W' w':=fun W' hx'=>
        (cyclic_any W' T (HT.out.ext ((bl.trans (Below.mono hx5 bl.size)).trans (Below.mono hx' (Nat.le_trans bl.size hx5.le)))) HE.out _ b (hl5.ext hx') (Ltr.of_ok _ _) HC.out).mono fun e w' ⟨hx,p,q,bb,he,hb⟩=>⟨p,q,by rw [he,hb.2 hcy],hx⟩
       have HCC:=Lib.hid hC
       clear hC hM
       gi_wp2_with (refine ⟨trivial,?_⟩;gi_at_call 138;refine (CallsIn.mono (callsIn_wide.2 (HCC.out _ (Ext.alloc _ _))) ?_);rintro e w6 ⟨p,q,rfl,hx6⟩;have hx66:=Ext.refl w6;have hx56:Ext W w6:=hx5.trans ((Ext.alloc _ _).trans hx6))
       have HF:=Lib.hid (fun o=>fau_end (T:=T) h1 h2 bl hx56 p q 10 D hD' hK ⟨fun h=>absurd h (by decide),fun h=>absurd h HVC.out⟩ _ _ rfl (Ext.alloc _ o))
       refine ⟨by simp,.inl ⟨_,_,rfl,run_takeDeferred (ds:=[]) (HF.out _).1,?_⟩⟩
       exact ⟨_,fau_results _ _ _ _ _ _ _ rfl rfl (HF.out _).2.1 (HF.out _).2.2.1 (HF.out _).2.2.2.1,(HF.out _).2.2.2.2⟩
      ·have HVC:=Lib.hid (show T.toTr.Valid from ⟨hn8.1,hn8.2,HOK2.out,HE.out,hm,hcy⟩)
       gi_wp2_with (refine ⟨trivial,?_⟩;gi_at_call 137;refine (CallsIn.mono (callsIn_wide.2 hM) ?_);rintro e w5 ⟨b,rfl,hl5,hx5⟩;have hx55:=Ext.refl w5)
       have hC:∀ W',Ext w5 W'→Calls Tryz.prog 138 #[T.val,.pointer (some ⟨b,0,none⟩)] W' fun e w'=>∃ p q:Int,e=.returned (.tuple #[.agg #[.int .i64 p,.int .i64 q],.bool false])∧Ext W' w':=fun W' hx'=>
        (cyclic_any W' T (HT.out.ext ((bl.trans (Below.mono hx5 bl.size)).trans (Below.mono hx' (Nat.le_trans bl.size hx5.le)))) HE.out _ b (hl5.ext hx') (Ltr.of_ok _ _) HC.out).mono fun e w' ⟨hx,p,q,bb,he,hb⟩=>⟨p,q,by rw [he,Bool.eq_false_iff.2 (fun h=>hcy (hb.1 h))],hx⟩
       have HCC:=Lib.hid hC
       clear hC hM
       gi_wp2_with (refine ⟨trivial,?_⟩;gi_at_call 138;refine (CallsIn.mono (callsIn_wide.2 (HCC.out _ (Ext.alloc _ _))) ?_);rintro e w6 ⟨p,q,rfl,hx6⟩;have hx66:=Ext.refl w6;have hx56:Ext W w6:=hx5.trans ((Ext.alloc _ _).trans hx6))
       have HF:=Lib.hid (fun o=>fau_end (T:=T) h1 h2 bl hx56 0 0 0 D hD' hK ⟨fun _=>HVC.out,fun _=>rfl⟩ _ _ rfl (Ext.alloc _ o))
       refine ⟨by simp,.inl ⟨_,_,rfl,run_takeDeferred (ds:=[]) (HF.out _).1,?_⟩⟩
       exact ⟨_,fau_results _ _ _ _ _ _ _ rfl rfl (HF.out _).2.1 (HF.out _).2.2.1 (HF.out _).2.2.2.1,(HF.out _).2.2.2.2⟩
     ·have hM : Calls Tryz.prog 137 #[T.val] W fun e w' => ∃ p q c : Int, e = .returned (.tuple #[.pointer none, .agg #[.int .i64 p, .int .i64 q], .int .i64 c]) ∧ (c != 0) = true ∧ Ext W w' :=
        HVm.out.mono fun e w' ⟨hx,h⟩=>by
         rcases h with ⟨b,_,_,hn⟩ | ⟨p,q,c,hc,he,_⟩
         ·exact absurd hn hm
         ·exact ⟨p,q,c,he,by simpa using hc,hx⟩
      clear HVm
      gi_wp2_with (refine ⟨trivial,?_⟩;gi_at_call 137;refine (CallsIn.mono (callsIn_wide.2 hM) ?_);rintro e w5 ⟨p,q,c,rfl,hc,hx5⟩;have hx55:=Ext.refl w5)
      have HF:=Lib.hid (fun o=>fau_end (T:=T) h1 h2 bl hx5 p q c D hD' hK ⟨fun h=>absurd h (by simpa using hc),fun h=>absurd h.msg hm⟩ _ _ rfl (Ext.alloc _ o))
      refine ⟨by simp,.inl ⟨_,_,rfl,run_takeDeferred (ds:=[]) (HF.out _).1,?_⟩⟩
      exact ⟨_,fau_results _ _ _ _ _ _ _ rfl rfl (HF.out _).2.1 (HF.out _).2.2.1 (HF.out _).2.2.2.1,(HF.out _).2.2.2.2⟩
    case stop=>
     rintro D c pre W hD hpre hX hK
     obtain ⟨rfl,⟨p,q,cc,hcc,h1,h2⟩,bl,⟨⟨xk,xi⟩,hxk,hxi⟩,bad⟩:=hX
     have hD':w.heap.size+3≤D:=by have:=HSZ.out;omega
     have g2:=h1.putObj D (.deferred none) (by omega)
     have g3:=h2.putObj D (.deferred none) (by omega)
     have hbl:Ext w (W.putObj D (.deferred none)):=bl.trans (belowK_b (w:=w) (Nat.le_refl _) W D (.deferred (some [])) _ (by omega) hK rfl rfl)
     clear l0 l1 l2 k0 k1 k2 h1 h2 hpre c0 c1 c2 f1 f2 hI0 hbn
     gi_wp2
     refine ⟨by simp,.inl ⟨_,_,rfl,run_takeDeferred (ds:=[]) hK,?_⟩⟩
     exact ⟨_,fau_results _ _ _ _ _ _ _ rfl rfl (g2.cell0 0) (g2.cell0 1) (g3.cell0 0),hbl,p,q,cc,rfl,⟨fun h=>absurd h hcc,fun h=>absurd (h.ev xk xi hxk hxi) bad⟩⟩
set_option maxHeartbeats 1000000 in
theorem valid_any (w : World) (T : TM) (hT : T.At w) :
    Calls Tryz.prog 35 #[T.val] w (BoolPost T.toTr.Valid w):=by
 go_enter Tryz.func35,Tryz.ntmps35
 go_upto_region 1 with fail
 refine boxed1 (w:=w) (G:=fun x=>Code.wp _ _ _ _ x) ?_
 intro w1 hx1 hs1 ⟨l0,c0,_,_⟩
 have hx11:Ext w1 w1:=Ext.refl _
 have hF:=fault_any w1 T (hT.ext hx1)
 clear hs1 hT
 go_wp2_with (go_at_call 83;refine hF.mono ?_;rintro e w2 ⟨hx2,p,q,c,rfl,hc⟩;have hx22:=Ext.refl w2)
 go_ret
 exact ⟨_,rfl,by rw [←hc];simp,(hx1.trans hx2).alloc' _⟩
end Go.Proofs.YtmhapcnlpoilpaaGreatDoor

namespace Go.Proofs.YtmhapcnlpoilpaaGreatDoor
open Go.RowKit Go.Shelf
attribute [local go_sem] Oper.semAt_some
def Tr.Hit (T:Tr) (kind m:Int) (x:T.Id):Prop:=T.kind x.1.1 x.1.2=kind∧T.msg x.1.1 x.1.2=m
def Tr.FindIs (T:Tr) (kind m p q:Int) (b:Bool):Prop:=
 (∃ x:T.Id,T.Hit kind m x∧p=x.1.1∧q=x.1.2+1∧b=true)∨((∀ x:T.Id,¬T.Hit kind m x)∧p=0∧q=0∧b=false)
def FindPost (T:TM) (kind m:Int) (w:World) (e:Ending) (w':World):Prop:=Ext w w'∧∃ (p q:Int) (b:Bool),e=.returned (.tuple #[.agg #[.int .i64 p,.int .i64 q],.bool b])∧T.toTr.FindIs kind m p q b
structure FinI (T:TM) (kind m:Int) (w:World) (pre:List T.toTr.Id) (W:World):Prop where
 h1:Hold W (w.heap.size+1) #[.int .i64 kind]
 h2:Hold W (w.heap.size+1+1) #[.int .i64 m]
 h3:Hold W (w.heap.size+1+1+1) #[.int .i64 0,.int .i64 0]
 h4:Hold W (w.heap.size+1+1+1+1) #[.bool false]
 bl:Below w.heap.size w W
 ok:∀ x,x∈pre→¬T.toTr.Hit kind m x
structure FinX (T:TM) (kind m:Int) (w:World) (pre:List T.toTr.Id) (W:World):Prop where
 res:∃ x:T.toTr.Id,T.toTr.Hit kind m x∧Hold W (w.heap.size+1+1+1) #[.int .i64 x.1.1,.int .i64 (x.1.2+1)]∧Hold W (w.heap.size+1+1+1+1) #[.bool true]
 bl:Below w.heap.size w W
theorem FinI.own (T:TM) (kind m:Int) (w w0:World) (h:w.heap.size≤w0.heap.size):OwnFrom w0.heap.size (FinI T kind m w):=by
 intro s W W' row hi hg hr
 exact ⟨Hold.own _ _ (fun _=>_) s W W' row hi.h1 hg hr,Hold.own _ _ (fun _=>_) s W W' row hi.h2 hg hr,Hold.own _ _ (fun _=>_) s W W' row hi.h3 hg hr,Hold.own _ _ (fun _=>_) s W W' row hi.h4 hg hr,ownFrom_below (Nat.le_refl _) h s W W' row hi.bl hg hr,hi.ok⟩
theorem FinX.own (T:TM) (kind m:Int) (w w0:World) (h:w.heap.size≤w0.heap.size):OwnFrom w0.heap.size (FinX T kind m w):=by
 intro s W W' row ⟨⟨x,hx,a,b⟩,hb⟩ hg hr
 exact ⟨⟨x,hx,Hold.own _ _ (fun _=>_) s W W' row a hg hr,Hold.own _ _ (fun _=>_) s W W' row b hg hr⟩,ownFrom_below (Nat.le_refl _) h s W W' row hb hg hr⟩
theorem FinI.ext {T:TM} {kind m:Int} {w:World} {pre:List T.toTr.Id} {W W':World} (h:FinI T kind m w pre W) (x:Ext W W'):FinI T kind m w pre W':=
 ⟨h.h1.ext x,h.h2.ext x,h.h3.ext x,h.h4.ext x,h.bl.trans (Below.mono x h.bl.size),h.ok⟩
structure FinA (T:TM) (w:World) (x:T.toTr.Id) (bx:Nat) (W:World):Prop where
 hx:Hold W bx #[.int .i64 x.1.1,.int .i64 (x.1.2+1)]
 hy:Hold W (bx+1) (T.evc x.1.1 x.1.2)
 lt:w.heap.size+1+1+1+1<bx
theorem FinA.new {T : TM} {kind m : Int} {w : World} {pre : List T.toTr.Id} {W : World} (h : FinI T kind m w pre W) {x : T.toTr.Id} {t u : TypeId} :
    FinA T w x W.heap.size ((W.alloc (.cells #[.int .i64 x.1.1,.int .i64 (x.1.2+1)] t)).alloc (.cells (T.evc x.1.1 x.1.2) u)):=by
 refine ⟨Hold.ext (W:=W.alloc (.cells #[.int .i64 x.1.1,.int .i64 (x.1.2+1)] t)) (Hold.new _ _ _) (Ext.alloc _ _),⟨u,?_⟩,h.h4.lt⟩
 show ((W.heap.push _).push _)[W.heap.size+1]?=_
 rw [Array.getElem?_push,if_pos (by simp)]
theorem fin_results (tmps : Array Value) (W : World) (b2 b3 : Nat) (x y z : Value) (t2 : tmps[6]? = some (.pointer (some ⟨b2, 0, none⟩))) (t3 : tmps[7]? = some (.pointer (some ⟨b3, 0, none⟩)))
    (c2:W.cell? ⟨b2,0,none⟩=some x) (c2':W.cell? ⟨b2,1,none⟩=some y) (c3:W.cell? ⟨b3,0,none⟩=some z) :
    (results Tryz.f229 tmps).run Tryz.prog W=.ok (.tuple #[.agg #[x,y],z]) W:=by
 simp [results,Tryz.results229,go_sem,t2,t3,c2,c2',c3]
theorem fin_set {w W : World} (h1 : Hold W (w.heap.size + 1 + 1 + 1) #[.int .i64 0, .int .i64 0]) (h2 : Hold W (w.heap.size + 1 + 1 + 1 + 1) #[.bool false]) (bl : Below w.heap.size w W) (p q : Int) (c : Bool) :
    ∀ W9,W9=((W.setCell ⟨w.heap.size+1+1+1,0,none⟩ (.int .i64 p)).setCell ⟨w.heap.size+1+1+1,1,none⟩ (.int .i64 q)).setCell ⟨w.heap.size+1+1+1+1,0,none⟩ (.bool c)→
    Hold W9 (w.heap.size+1+1+1) #[.int .i64 p,.int .i64 q]∧Hold W9 (w.heap.size+1+1+1+1) #[.bool c]∧Below w.heap.size w W9∧(∀ B,KeepsFrom B W W9)∧(∀ D,w.heap.size+5≤D→W9.heap[D]?=W.heap[D]?):=by
 rintro W9 rfl
 refine ⟨?_,?_,?_,fun B=>((keeps_set _ _ _ _).trans (keeps_set _ _ _ _)).trans (keeps_set _ _ _ _),fun D hD=>?_⟩
 ·have a2:=(h1.set 0 (.int .i64 p)).set 1 (.int .i64 q)
  simp only [List.setIfInBounds_toArray,List.set_cons_zero,List.set_cons_succ] at a2
  exact a2.other _ _ (by dsimp only;omega)
 ·have a1:=(h2.other ⟨w.heap.size+1+1+1,0,none⟩ (.int .i64 p) (by dsimp only;omega)).other ⟨w.heap.size+1+1+1,1,none⟩ (.int .i64 q) (by dsimp only;omega)
  have a2:=a1.set 0 (.bool c)
  simp only [List.setIfInBounds_toArray,List.set_cons_zero] at a2
  exact a2
 ·exact ((bl.setCell (by dsimp only;omega) _).setCell (by dsimp only;omega) _).setCell (by dsimp only;omega) _
 ·rw [Below.heap_setCell _ _ _ _ (by dsimp only;omega),Below.heap_setCell _ _ _ _ (by dsimp only;omega),Below.heap_setCell _ _ _ _ (by dsimp only;omega)]
set_option maxHeartbeats 8000000 in
theorem find_any (w : World) (T : TM) (hT : T.At w) (hV : T.toTr.Valid) (kind m : Int) :
    Calls Tryz.prog 229 #[T.val,.int .i64 kind,.int .i64 m] w (FindPost T kind m w):=by
 refine (callsIn_wide (n:=4)).1 ?_
 have HT:=Lib.hid hT
 have HV:=Lib.hid hV
 clear hT hV
 refine callsIn_of_wp_marks Tryz.func229 rfl trivial ?_ rfl
 simp only [Tryz.ntmps229,List.size_toArray,List.length_cons,List.length_nil,Nat.reduceAdd,Nat.reduceSub,Array.replicate_succ,Array.replicate_zero,List.push_toArray,List.append_toArray,List.nil_append,List.cons_append]
 gi_upto_region 1 with fail
 refine boxed5 (w:=w) (G:=fun x=>Code.wpIn _ _ _ _ _ _ x) ?_
 intro w1 hx1 hs1 ⟨l0,c0,_,k0⟩ ⟨l1,c1,_,k1⟩ ⟨l2,c2,_,k2⟩ ⟨l3,c3,_,k3⟩ ⟨l4,c4,_,k4⟩
 have hx11:Ext w1 w1:=Ext.refl _
 have HS:=Lib.hid hs1
 clear hs1
 have hVa:Calls Tryz.prog 35 #[T.val] w1 fun e w'=>e=.returned (.bool true)∧Ext w1 w':=(valid_any w1 T (HT.out.ext hx1)).mono fun e w' ⟨b,he,hb,hx⟩=>⟨by rw [he,hb.2 HV.out],hx⟩
 have hev:=fun W=>events_any T W
 have HEV:=Lib.hid hev
 clear hev
 gi_wp2_with (first | (refine ⟨trivial,?_⟩;gi_at_call 35;refine (CallsIn.mono (callsIn_wide.2 hVa) ?_);rintro e wv ⟨rfl,hxv⟩;clear hVa) | (refine ⟨trivial,?_⟩;gi_at_call 135;refine (CallsIn.mono (callsIn_wide.2 (HEV.out wv)) ?_);rintro e w' ⟨rfl,rfl⟩))
 clear hx11 c0 c1 c2 c3 c4
 obtain ⟨w2,hw2⟩:∃ w2,w2=wv.alloc (.cells #[.slice T.a T.n T.cap] 24):=⟨_,rfl⟩
 rw [←hw2]
 have hx12:Ext w1 w2:=by rw [hw2];exact hxv.alloc' _
 have hbn:w2.cell? ⟨wv.heap.size,0,none⟩=some (.slice T.a T.n T.cap):=by rw [hw2];simp
 have hsz:w.heap.size+5≤w2.heap.size:=by rw [hw2];simp;have:=HS.out;have:=hxv.le;omega
 clear hw2 HS
 have HSZ:=Lib.hid hsz
 clear hsz
 refine wpIn_rangeFunc_ownH rfl (by omega) (gf:=177) (lb:=#[.pointer (some ⟨wv.heap.size,0,none⟩)]) rfl trivial (enters_of Tryz.func177 (by kernel_rfl) rfl)
  (events_stops 3 (by omega) wv.heap.size T w w2 HT.out (hx1.trans hx12) hbn) belowK_t (belowK_b (by have:=HSZ.out;omega)) (Below.refl _ _) (fun _=>rfl)
  (FinI T kind m w) (fun c pre W=>c=.ret∧FinX T kind m w pre W) (FinI.own T kind m w w2 (by have:=HSZ.out;omega)) (fun c=>OwnFrom.and (ownFrom_pure _ (fun _=>c=.ret)) (FinX.own T kind m w w2 (by have:=HSZ.out;omega)))
  ⟨Hold.ext k1 hx12,Hold.ext k2 hx12,Hold.ext k3 hx12,Hold.ext k4 hx12,hx1.trans hx12,fun x h=>by cases h⟩
  (fun x a' W=>∃ bx,FinA T w x bx W∧a'={ tmps:=#[T.val,.int .i64 kind,.int .i64 m,.pointer (some ⟨w.heap.size,0,none⟩),.pointer (some ⟨w.heap.size+1,0,none⟩),.pointer (some ⟨w.heap.size+1+1,0,none⟩),.pointer (some ⟨w.heap.size+1+1+1,0,none⟩),.pointer (some ⟨w.heap.size+1+1+1+1,0,none⟩),.pointer (some ⟨bx,0,none⟩),.pointer (some ⟨bx+1,0,none⟩),.agg #[.slice T.a T.n T.cap],.bool true,.bool false,undef,.agg #[.slice T.a T.n T.cap],.func (.func 177) #[] #[.pointer (some ⟨wv.heap.size,0,none⟩)],.agg #[.int .i64 x.1.1,.int .i64 (x.1.2+1)],T.ev x.1.1 x.1.2,undef,undef,undef,undef,undef,undef,undef,undef,undef,undef,undef,undef],defers:=[] }) (fun x a'=>by
   intro s W W' row ⟨bx,⟨h1,h2,h3⟩,e⟩ hg hr
   exact ⟨bx,⟨Hold.own _ _ (fun _=>_) s W W' row h1 hg hr,Hold.own _ _ (fun _=>_) s W W' row h2 hg hr,h3⟩,e⟩) ?assign ?body ?done ?stop
 case assign=>
  rintro l pre x W K hI hK
  gi_wp2
  have hx:Ext W ((W.alloc (.cells #[.int .i64 x.1.1,.int .i64 (x.1.2+1)] 47)).alloc (.cells (T.evc x.1.1 x.1.2) 58)):=(Ext.alloc _ _).alloc' _
  exact hK _ _ (hx.keepsFrom _) (Below.mono hx hI.bl.size) (hI.ext hx) ⟨W.heap.size,FinA.new hI,rfl⟩
 case body=>
  rintro l pre x a' W hl ⟨r,hr⟩ hI ⟨bx,hA,rfl⟩ hlt
  obtain ⟨⟨k,i⟩,hk,hi⟩:=x
  have HI:=Lib.hid hI
  obtain ⟨h1,h2,h3,h4,bl,ok⟩:=hI
  obtain ⟨x1,d1,f1,_⟩:=h1.box
  obtain ⟨x2,d2,f2,_⟩:=h2.box
  obtain ⟨x3,d3,f3,_⟩:=h3.box
  obtain ⟨x4,d4,f4,_⟩:=h4.box
  obtain ⟨xx,dx,fx,_⟩:=hA.hx.box
  obtain ⟨xy,dy,fy,_⟩:=hA.hy.box
  have hWW:Ext W W:=Ext.refl _
  dsimp only at d1 d2 d3 d4 dx dy
  have HR:=Lib.hid (fin_set h3 h4 bl k (i+1) true _ rfl)
  clear l0 l1 l2 l3 l4 k0 k1 k2 k3 k4 hbn h1 h2 h3 h4 ok hA
  by_cases e1:T.kind k i=kind
  ·by_cases e2:T.msg k i=m
   ·have HH:=Lib.hid (show T.toTr.Hit kind m ⟨(k,i),hk,hi⟩ from ⟨e1,e2⟩)
    gi_wp2
    exact ⟨HR.out.2.2.2.1 _,rfl,⟨⟨(k,i),hk,hi⟩,HH.out,HR.out.1,HR.out.2.1⟩,HR.out.2.2.1⟩
   ·have HH:=Lib.hid (show ¬T.toTr.Hit kind m ⟨(k,i),hk,hi⟩ from fun h=>e2 h.2)
    have e2b:(T.msg k i == m)=false:=by simpa using e2
    gi_wp2
    exact ⟨KeepsFrom.refl _ _,Below.refl _ _,⟨HI.out.h1,HI.out.h2,HI.out.h3,HI.out.h4,HI.out.bl,fun z hz=>by
     rcases List.mem_append.1 hz with hz | hz
     ·exact HI.out.ok z hz
     ·simp at hz;subst hz;exact HH.out⟩⟩
  ·have HH:=Lib.hid (show ¬T.toTr.Hit kind m ⟨(k,i),hk,hi⟩ from fun h=>e1 h.1)
   have e1b:(T.kind k i == kind)=false:=by simpa using e1
   gi_wp2
   exact ⟨KeepsFrom.refl _ _,Below.refl _ _,⟨HI.out.h1,HI.out.h2,HI.out.h3,HI.out.h4,HI.out.bl,fun z hz=>by
    rcases List.mem_append.1 hz with hz | hz
    ·exact HI.out.ok z hz
    ·simp at hz;subst hz;exact HH.out⟩⟩
 case done=>
  rintro D xs W hD rfl hI hK
  obtain ⟨h1,h2,h3,h4,bl,ok⟩:=hI
  obtain ⟨_,d3,f3,_⟩:=h3.box
  obtain ⟨_,d4,f4,_⟩:=h4.box
  have hWW:Ext W W:=Ext.refl _
  have hD':w.heap.size+5≤D:=by have:=HSZ.out;omega
  have HR:=Lib.hid (fin_set h3 h4 bl 0 0 false _ rfl)
  clear l0 l1 l2 l3 l4 k0 k1 k2 k3 k4
  gi_wp2
  have hK9:=(HR.out.2.2.2.2 D hD').trans hK
  refine ⟨by simp,.inl ⟨_,_,rfl,run_takeDeferred (ds:=[]) hK9,?_⟩⟩
  have g2:=HR.out.1.putObj D (.deferred none) (by omega)
  have g3:=HR.out.2.1.putObj D (.deferred none) (by omega)
  exact ⟨_,fin_results _ _ _ _ _ _ _ rfl rfl (g2.cell0 0) (g2.cell0 1) (g3.cell0 0),HR.out.2.2.1.trans (belowK_b (w:=w) (Nat.le_refl _) _ D (.deferred (some [])) _ (by omega) hK9 rfl rfl),0,0,false,rfl,.inr ⟨fun x=>by
   have hm:=evs_mem (T:=T.toTr) (x:=x.1) x.2
   obtain ⟨y,hy,e⟩:=List.mem_map.1 hm
   rw [show x=y from Subtype.ext e.symm];exact ok y hy,rfl,rfl,rfl⟩⟩
 case stop=>
  rintro D c pre W hD hpre hX hK
  obtain ⟨rfl,⟨x,hx,h2,h3⟩,bl⟩:=hX
  have hD':w.heap.size+5≤D:=by have:=HSZ.out;omega
  have g2:=h2.putObj D (.deferred none) (by omega)
  have g3:=h3.putObj D (.deferred none) (by omega)
  have hbl:Ext w (W.putObj D (.deferred none)):=bl.trans (belowK_b (w:=w) (Nat.le_refl _) W D (.deferred (some [])) _ (by omega) hK rfl rfl)
  clear l0 l1 l2 l3 l4 k0 k1 k2 k3 k4 h2 h3 hpre
  gi_wp2
  refine ⟨by simp,.inl ⟨_,_,rfl,run_takeDeferred (ds:=[]) hK,?_⟩⟩
  exact ⟨_,fin_results _ _ _ _ _ _ _ rfl rfl (g2.cell0 0) (g2.cell0 1) (g3.cell0 0),hbl,_,_,true,rfl,.inl ⟨x,hx,rfl,rfl,rfl⟩⟩
end Go.Proofs.YtmhapcnlpoilpaaGreatDoor

namespace Go.Proofs.YtmhapcnlpoilpaaGreatDoor
open Go.RowKit Go.Shelf
set_option maxHeartbeats 1000000 in
theorem sender_any (w : World) (T : TM) (hT : T.At w) (hV : T.toTr.Valid) (m : Int) :
    Calls Tryz.prog 215 #[T.val,.int .i64 m] w (FindPost T 2 m w):=by
 go_enter Tryz.func215,Tryz.ntmps215
 go_upto_region 1 with fail
 refine boxed2 (w:=w) (G:=fun x=>Code.wp _ _ _ _ x) ?_
 intro w1 hx1 hs1 ⟨l0,c0,_,_⟩ ⟨l1,c1,f1,k1⟩
 have hx11:Ext w1 w1:=Ext.refl _
 have hF:=find_any w1 T (hT.ext hx1) hV 2 m
 have HS:=Lib.hid hs1
 clear hs1 hT hV
 go_wp2_with (go_at_call 229;refine hF.mono ?_;rintro e w2 ⟨hx2,p,q,b,rfl,hc⟩;have hx22:=Ext.refl w2)
 have HC:=Lib.hid hc
 have h2:=((Hold.ext k1 hx2).set 0 (.int .i64 p)).set 1 (.int .i64 q)
 simp only [List.setIfInBounds_toArray,List.set_cons_zero,List.set_cons_succ] at h2
 have g0:=h2.cell0 0
 have g1:=h2.cell0 1
 refine bodyPost_ret (v:=.tuple #[.agg #[.int .i64 p,.int .i64 q],.bool b]) ?_ rfl ⟨?_,p,q,b,rfl,HC.out⟩
 ·simp at g0 g1
  simp [results,Tryz.results215,go_sem,g0,g1]
 ·exact ((hx1.trans hx2).setCell (by dsimp only;omega) _).setCell (by dsimp only;omega) _
theorem Ltr.of_fi {T:Tr} (hf:∀ x:T.Id,FormedP T x.1.1 (T.kind x.1.1 x.1.2) (T.peer x.1.1 x.1.2) (T.msg x.1.1 x.1.2)):∀ (l:List T.Id) (L:Ltr) (m:Nat),0<L.fi m∨(∃ x,x∈l∧T.kind x.1.1 x.1.2=2∧T.msg x.1.1 x.1.2=m)→0<(l.foldl (Ltr.step T) L).fi m
 | [],L,m,h => by
  rcases h with h | ⟨x,hx,_⟩
  ·exact h
  ·cases hx
 | x :: l,L,m,h => by
  refine Ltr.of_fi hf l _ m ?_
  by_cases hx:T.kind x.1.1 x.1.2=2
  ·by_cases hm:(T.msg x.1.1 x.1.2).toNat=m
   ·left;unfold Ltr.step;rw [if_pos hx];simp only [upd,hm,if_true];omega
   ·rcases h with h | ⟨y,hy,h2,h3⟩
    ·left;unfold Ltr.step;rw [if_pos hx];simp only [upd,if_neg (Ne.symm hm)];exact h
    ·rcases List.mem_cons.1 hy with e | hy
     ·subst e;exact absurd (by rw [h3];rfl) hm
     ·exact .inr ⟨y,hy,h2,h3⟩
  ·rcases h with h | ⟨y,hy,h2,h3⟩
   ·left;unfold Ltr.step;rw [if_neg hx]
    by_cases h3:T.kind x.1.1 x.1.2=3
    ·rw [if_pos h3];exact h
    ·rw [if_neg h3];exact h
   ·rcases List.mem_cons.1 hy with e | hy
    ·subst e;exact absurd h2 hx
    ·exact .inr ⟨y,hy,h2,h3⟩
theorem Ltr.of_ti {T:Tr} (hf:∀ x:T.Id,FormedP T x.1.1 (T.kind x.1.1 x.1.2) (T.peer x.1.1 x.1.2) (T.msg x.1.1 x.1.2)):∀ (l:List T.Id) (L:Ltr) (m:Nat),0<L.ti m∨(∃ x,x∈l∧T.kind x.1.1 x.1.2=3∧T.msg x.1.1 x.1.2=m)→0<(l.foldl (Ltr.step T) L).ti m
 | [],L,m,h => by
  rcases h with h | ⟨x,hx,_⟩
  ·exact h
  ·cases hx
 | x :: l,L,m,h => by
  refine Ltr.of_ti hf l _ m ?_
  by_cases hx:T.kind x.1.1 x.1.2=3
  ·have h2':¬T.kind x.1.1 x.1.2=2:=by rw [hx];decide
   by_cases hm:(T.msg x.1.1 x.1.2).toNat=m
   ·left;unfold Ltr.step;rw [if_neg h2',if_pos hx];simp only [upd,hm,if_true];omega
   ·rcases h with h | ⟨y,hy,h2,h3⟩
    ·left;unfold Ltr.step;rw [if_neg h2',if_pos hx];simp only [upd,if_neg (Ne.symm hm)];exact h
    ·rcases List.mem_cons.1 hy with e | hy
     ·subst e;exact absurd (by rw [h3];rfl) hm
     ·exact .inr ⟨y,hy,h2,h3⟩
  ·rcases h with h | ⟨y,hy,h2,h3⟩
   ·left;unfold Ltr.step
    by_cases h2:T.kind x.1.1 x.1.2=2
    ·rw [if_pos h2];exact h
    ·rw [if_neg h2,if_neg hx];exact h
   ·rcases List.mem_cons.1 hy with e | hy
    ·subst e;exact absurd h2 hx
    ·exact .inr ⟨y,hy,h2,h3⟩
theorem evs_all {T:Tr} (x:T.Id):x∈T.evs:=by
 have hm:=evs_mem (T:=T) (x:=x.1) x.2
 obtain ⟨y,hy,e⟩:=List.mem_map.1 hm
 rw [show x=y from Subtype.ext e.symm];exact hy
theorem Tr.Valid.formed {T:Tr} (h:T.Valid) (x:T.Id):FormedP T x.1.1 (T.kind x.1.1 x.1.2) (T.peer x.1.1 x.1.2) (T.msg x.1.1 x.1.2):=(h.ev x.1.1 x.1.2 x.2.1 x.2.2).1
structure Mx where
 n:Nat
 rn:Nat→Nat
 val:Nat→Nat→Int
structure MM extends Mx where
 a:Option Addr
 b:Nat
 off:Nat
 cap:Nat
 ra:Nat→Option Addr
 rb:Nat→Nat
 ro:Nat→Nat
 rc:Nat→Nat
abbrev MM.v (M:MM):Value:=.slice M.a M.n M.cap
structure MM.At (M:MM) (w:World):Prop where
 hn:M.n≤140737488355328
 pa:0<M.n→M.a=some ⟨M.b,M.off,none⟩
 pb:0<M.n→∀ w',Ext w w'→M.b<w'.heap.size
 p0:∀ w',Ext w w'→∀ k,k<M.n→w'.cell? ⟨M.b,M.off+k,none⟩=some (.slice (M.ra k) (M.rn k) (M.rc k))
 hr:∀ k,k<M.n→M.rn k≤140737488355328
 ra:∀ k,k<M.n→0<M.rn k→M.ra k=some ⟨M.rb k,M.ro k,none⟩
 rb:∀ k,k<M.n→0<M.rn k→∀ w',Ext w w'→M.rb k<w'.heap.size
 r0:∀ w',Ext w w'→∀ k i,k<M.n→i<M.rn k→w'.cell? ⟨M.rb k,M.ro k+i,none⟩=some (.int .i64 (M.val k i))
theorem MM.At.ext {M:MM} {w w':World} (h:M.At w) (x:Ext w w'):M.At w':=
 ⟨h.hn,h.pa,fun h0 w' y=>h.pb h0 w' (x.trans y),fun w' y=>h.p0 w' (x.trans y),h.hr,h.ra,fun k h1 h2 w' y=>h.rb k h1 h2 w' (x.trans y),fun w' y=>h.r0 w' (x.trans y)⟩
theorem two_places {α:Type} {l:List α} {x y:α} (hx:x∈l) (hy:y∈l) (hne:x≠y):(∃ pre,pre++[y] <+: l∧x∈pre)∨(∃ pre,pre++[x] <+: l∧y∈pre):=by
 obtain ⟨a,b,rfl⟩:=List.append_of_mem hx
 rcases List.mem_append.1 hy with hy | hy
 ·exact .inr ⟨a,⟨b,by simp⟩,hy⟩
 ·rcases List.mem_cons.1 hy with e | hy
  ·exact absurd e.symm hne
  ·obtain ⟨c,d,rfl⟩:=List.append_of_mem hy
   exact .inl ⟨a++x :: c,⟨d,by simp⟩,by simp⟩
theorem Tr.Valid.uniq2 {T:Tr} (h:T.Valid) {x y:T.Id} (hx:T.kind x.1.1 x.1.2=2) (hy:T.kind y.1.1 y.1.2=2) (hm:T.msg x.1.1 x.1.2=T.msg y.1.1 y.1.2):x=y:=by
 have key:∀ (x y:T.Id) pre,pre++[y] <+: T.evs→x∈pre→T.kind x.1.1 x.1.2=2→T.kind y.1.1 y.1.2=2→T.msg x.1.1 x.1.2=T.msg y.1.1 y.1.2→False:=by
  intro x y pre hp hx h1 h2 h3
  have hn:=(h.msg pre y hp).1 h2
  have:=Ltr.of_fi h.formed pre Ltr.zero (T.msg y.1.1 y.1.2).toNat (.inr ⟨x,hx,h1,by rw [h3];rcases h.formed y with h | h <;> omega⟩)
  unfold Ltr.of at hn;omega
 refine Classical.byContradiction fun hne=>?_
 rcases two_places (evs_all x) (evs_all y) hne with ⟨pre,hp,hi⟩ | ⟨pre,hp,hi⟩
 ·exact key x y pre hp hi hx hy hm
 ·exact key y x pre hp hi hy hx hm.symm
theorem Tr.Valid.uniq3 {T:Tr} (h:T.Valid) {x y:T.Id} (hx:T.kind x.1.1 x.1.2=3) (hy:T.kind y.1.1 y.1.2=3) (hm:T.msg x.1.1 x.1.2=T.msg y.1.1 y.1.2):x=y:=by
 have key:∀ (x y:T.Id) pre,pre++[y] <+: T.evs→x∈pre→T.kind x.1.1 x.1.2=3→T.kind y.1.1 y.1.2=3→T.msg x.1.1 x.1.2=T.msg y.1.1 y.1.2→False:=by
  intro x y pre hp hx h1 h2 h3
  have hn:=((h.msg pre y hp).2 h2).1
  have:=Ltr.of_ti h.formed pre Ltr.zero (T.msg y.1.1 y.1.2).toNat (.inr ⟨x,hx,h1,by rw [h3];rcases h.formed y with h | h <;> omega⟩)
  unfold Ltr.of at hn;omega
 refine Classical.byContradiction fun hne=>?_
 rcases two_places (evs_all x) (evs_all y) hne with ⟨pre,hp,hi⟩ | ⟨pre,hp,hi⟩
 ·exact key x y pre hp hi hx hy hm
 ·exact key y x pre hp hi hy hx hm.symm
def Tr.Snd (T:Tr) (x y:T.Id):Prop:=T.kind x.1.1 x.1.2=3∧T.kind y.1.1 y.1.2=2∧T.msg y.1.1 y.1.2=T.msg x.1.1 x.1.2
theorem Tr.Valid.snd_ex {T:Tr} (h:T.Valid) (x:T.Id) (hx:T.kind x.1.1 x.1.2=3):∃ y,T.Snd x y:=by
 obtain ⟨a,b,e⟩:=List.append_of_mem (evs_all x)
 have hs:=((h.msg a x ⟨b,by rw [e];simp⟩).2 hx).2
 obtain ⟨i,hi,hp⟩:=anyB_iff.1 hs
 simp only [Bool.and_eq_true,decide_eq_true_eq] at hp
 have hpeer:(T.peer x.1.1 x.1.2).toNat<T.n:=by rcases h.formed x with h | h <;> omega
 exact ⟨⟨((T.peer x.1.1 x.1.2).toNat,i),hpeer,hi⟩,hx,hp.1.1,hp.1.2⟩
open Classical in
noncomputable def Tr.snd (T:Tr) (x:T.Id):T.Id:=if h:∃ y,T.Snd x y then Classical.choose h else x
theorem Tr.Valid.snd {T:Tr} (h:T.Valid) (x:T.Id) (hx:T.kind x.1.1 x.1.2=3):T.Snd x (T.snd x):=by
 have he:=h.snd_ex x hx
 unfold Tr.snd
 rw [dif_pos he];exact Classical.choose_spec he
theorem Tr.Valid.snd_eq {T:Tr} (h:T.Valid) {x y:T.Id} (hy:T.Snd x y):T.snd x=y:=by
 have hs:=h.snd x hy.1
 exact h.uniq2 hs.2.1 hy.2.1 (hs.2.2.trans hy.2.2.symm)
theorem Tr.Valid.found {T:Tr} (h:T.Valid) {x:T.Id} (hx:T.kind x.1.1 x.1.2=3) {p q:Int} {b:Bool} (hf:T.FindIs 2 (T.msg x.1.1 x.1.2) p q b):p=(T.snd x).1.1∧q=(T.snd x).1.2+1∧b=true:=by
 rcases hf with ⟨y,hy,hp,hq,hb⟩ | ⟨hn,_⟩
 ·have:=h.snd_eq (x:=x) (y:=y) ⟨hx,hy.1,hy.2⟩
  rw [this];exact ⟨hp,hq,hb⟩
 ·have hs:=h.snd x hx
  exact absurd ⟨hs.2.1,hs.2.2⟩ (hn _)
end Go.Proofs.YtmhapcnlpoilpaaGreatDoor

namespace Go.Proofs.YtmhapcnlpoilpaaGreatDoor
open Go.RowKit Go.Shelf
def intCells (l:List Int):List Value:=l.map (Value.int .i64)
theorem intCells_one (l:List Int):∀ u∈intCells l,u.oneCell'=true:=by
 intro u hu
 obtain ⟨x,_,rfl⟩:=List.mem_map.1 hu;rfl
def IntOwn (w:World) (base:Nat) (v:Value) (l:List Int):Prop:=w.ownsRow base 3 1 v l.length (intCells l)
def vAddr:Value→Option Addr | .slice a _ _=>a | _=>none
def vBlock:Value→Nat | .slice (some a) _ _=>a.block | _=>0
def vCap:Value→Nat | .slice _ _ c=>c | _=>0
theorem IntOwn.nil (w:World) (base:Nat):IntOwn w base (.slice none 0 0) []:=World.ownsRow_nil _ _ _ _
theorem IntOwn.form {w : World} {base : Nat} {v : Value} {l : List Int} (h : IntOwn w base v l) : v = .slice (vAddr v) l.length (vCap v) ∧ (0 < l.length → vAddr v = some ⟨vBlock v, 0, none⟩) ∧ l.length ≤ maxLen ∧ (0 < l.length → v.ownBlock = some (vBlock v)) ∧
    ∀ w',Ext w w'→∀ i (h:i<l.length),w'.cell? ⟨vBlock v,i,none⟩=some (.int .i64 l[i]):=by
 obtain ⟨h1,⟨hv,hn⟩ | ⟨g,cap,cur,hv,hg,hh,hc,hm,hs,ht⟩⟩:=h
 ·subst hv;exact ⟨by simp [vAddr,vCap,hn],fun h=>by omega,by omega,fun h=>by omega,fun w' _ i h=>by omega⟩
 ·subst hv
  refine ⟨by simp [vAddr,vCap],fun _=>rfl,by omega,fun _=>rfl,fun w' hx i hi=>?_⟩
  have hb:=Box.of hh
  show w'.cell? ⟨g,i,none⟩=_
  rw [hb.cell w' hx]
  have:cur[i]?=(intCells l)[i]?:=by rw [←ht,List.getElem?_take_of_lt (by omega)];simp
  rw [this];simp [intCells,hi]
theorem IntOwn.block {w:World} {b:Nat} {v:Value} {l:List Int} (h:IntOwn w b v l):∀ k,v.ownBlock=some k→b≤k:=by
 intro k hk
 obtain ⟨h1,⟨hv,hn⟩ | ⟨g,cap,cur,hv,hg,rest⟩⟩:=h
 ·subst hv;cases hk
 ·subst hv;simp [Value.ownBlock] at hk;omega
theorem IntOwn.lt {w:World} {base:Nat} {v:Value} {l:List Int} (h:IntOwn w base v l):∀ g,v.ownBlock=some g→g<w.heap.size:=by
 intro k hk
 obtain ⟨_,⟨hv,_⟩ | ⟨g,cap,cur,hv,_,hh,_⟩⟩:=h
 ·subst hv;cases hk
 ·subst hv;simp [Value.ownBlock] at hk;subst hk;exact (Array.getElem?_eq_some_iff.1 hh).1
theorem IntOwn.same {w w':World} {base:Nat} {v:Value} {l:List Int} (h:IntOwn w base v l) (hs:∀ g,v.ownBlock=some g→w'.heap[g]?=w.heap[g]?):IntOwn w' base v l:=by
 obtain ⟨h1,⟨hv,hn⟩ | ⟨g,cap,cur,hv,hg,hh,rest⟩⟩:=h
 ·exact ⟨h1,.inl ⟨hv,hn⟩⟩
 ·exact ⟨h1,.inr ⟨g,cap,cur,hv,hg,(hs g (by subst hv;rfl)).trans hh,rest⟩⟩
theorem IntOwn.kept {w w':World} {base:Nat} {v:Value} {l:List Int} (h:IntOwn w base v l) (x:Ext w w'):IntOwn w' base v l:=h.same fun g e=>x.block g (h.lt g e)
structure StS (base bS n:Nat) (rows:Nat→List Int) (vs:Nat→Value) (w:World):Prop where
 hn:n≤100
 cell:∀ k,k<n→w.cell? ⟨bS,k,none⟩=some (vs k)
 froz:∀ k,w.frozen? ⟨bS,k,none⟩=false
 own:∀ k,k<n→IntOwn w base (vs k) (rows k)
 apart:∀ j k,j<n→k<n→j≠k→∀ g,(vs j).ownBlock=some g→(vs k).ownBlock≠some g
 off:∀ k,k<n→(vs k).ownBlock≠some bS
 len:∀ k,k<n→(rows k).length≤1000000
theorem StS.ext {base bS n:Nat} {rows:Nat→List Int} {vs:Nat→Value} {w w':World} (h:StS base bS n rows vs w) (h0:0<n) (x:Ext w w'):StS base bS n rows vs w':=
 ⟨h.hn,fun k hk=>x.cell (h.cell k hk),fun k=>(x.frozen (p:=⟨bS,k,none⟩) (cell_lt (h.cell 0 h0):bS<w.heap.size)).trans (h.froz k),fun k hk=>(h.own k hk).kept x,h.apart,h.off,h.len⟩
def stMM (bS n cap:Nat) (rows:Nat→List Int) (vs:Nat→Value):MM:=
 { n:=n,rn:=fun k=>(rows k).length,val:=fun k i=>(rows k).getD i 0,a:=some ⟨bS,0,none⟩,b:=bS,off:=0,cap:=cap,ra:=fun k=>vAddr (vs k),rb:=fun k=>vBlock (vs k),ro:=fun _=>0,rc:=fun k=>vCap (vs k) }
theorem StS.mm {base bS n cap:Nat} {rows:Nat→List Int} {vs:Nat→Value} {w:World} (h:StS base bS n rows vs w):(stMM bS n cap rows vs).At w:=by
 refine ⟨by have:=h.hn;show n≤_;omega,fun _=>rfl,fun h0 w' x=>Nat.lt_of_lt_of_le (cell_lt (h.cell 0 h0):bS<w.heap.size) x.le,fun w' x k hk=>?_,fun k hk=>by have:=h.len k hk;show (rows k).length≤_;omega,fun k hk h0=>(h.own k hk).form.2.1 h0,fun k hk h0 w' x=>?_,fun w' x k i hk hi=>?_⟩
 ·show w'.cell? ⟨bS,0+k,none⟩=_
  rw [Nat.zero_add,x.cell (h.cell k hk)];exact congrArg some (h.own k hk).form.1
 ·exact Nat.lt_of_lt_of_le ((h.own k hk).lt _ ((h.own k hk).form.2.2.2.1 h0)) x.le
 ·show w'.cell? ⟨vBlock (vs k),0+i,none⟩=some (.int .i64 ((rows k).getD i 0))
  have hi':i<(rows k).length:=hi
  rw [Nat.zero_add,(h.own k hk).form.2.2.2.2 w' x i hi',List.getD_eq_getElem?_getD,List.getElem?_eq_getElem hi'];rfl
def updR (rows:Nat→List Int) (p:Nat) (l:List Int):Nat→List Int:=fun k=>if k=p then l else rows k
def updV (vs:Nat→Value) (p:Nat) (v:Value):Nat→Value:=fun k=>if k=p then v else vs k
theorem StS.push {base bS n p : Nat} {rows : Nat → List Int} {vs : Nat → Value} {w w' : World} {x : Int} {v' : Value} {c : Array Value} {t : TypeId} (h : StS base bS n rows vs w) (hp : p < n) (hb : base ≤ bS) (hbw : base ≤ w.heap.size) (hl : (rows p).length < 1000000)
    (hown:w'.ownsRow base 3 1 v' ((rows p).length+1) (intCells (rows p)++[.int .i64 x])) (hg:(w.alloc (.cells c t)).grownBy w' (vs p).ownBlock) (hat:v'.ownBlock=(vs p).ownBlock∨v'.ownBlock=some (w.alloc (.cells c t)).heap.size) :
    StS base bS n (updR rows p (rows p++[x])) (updV vs p v') (w'.setCell ⟨bS,p,none⟩ v')∧Below base w (w'.setCell ⟨bS,p,none⟩ v')∧w'.cell? ⟨bS,p,none⟩=some (vs p)∧w'.frozen? ⟨bS,p,none⟩=false:=by
 have hbl:bS<w.heap.size:=cell_lt (h.cell p hp)
 have hbS:w'.heap[bS]?=w.heap[bS]?:=by
  rw [hg.block bS (by rw [World.size_alloc];omega) (fun e=>h.off p hp e.symm),Below.heap_alloc _ _ _ hbl]
 have hc:∀ k,w'.cell? ⟨bS,k,none⟩=w.cell? ⟨bS,k,none⟩:=fun k=>World.cell?_of_block (w:=w) (a:=⟨bS,k,none⟩) hbS
 have hf:∀ k,w'.frozen? ⟨bS,k,none⟩=w.frozen? ⟨bS,k,none⟩:=fun k=>World.frozen?_of_block (w:=w) (a:=⟨bS,k,none⟩) hbS
 have hcp:=(hc p).trans (h.cell p hp)
 have hset:=fun k=>cell_set w' bS p k v' hcp
 have hv'ne:v'.ownBlock≠some bS:=by
  intro e
  rcases hat with e' | e'
  ·exact h.off p hp (e'▸e)
  ·rw [e'] at e;simp at e;omega
 have hoth:∀ g,g≠bS→(w'.setCell ⟨bS,p,none⟩ v').heap[g]?=w'.heap[g]?:=fun g hg=>Below.heap_setCell _ _ _ _ hg
 have hnew:IntOwn w' base v' (rows p++[x]):=by
  unfold IntOwn intCells;rw [List.map_append,List.length_append];exact hown
 refine ⟨⟨h.hn,fun k hk=>?_,fun k=>by rw [frozen_set,hf];exact h.froz k,fun k hk=>?_,fun j k hj hk hne g e=>?_,fun k hk=>?_,fun k hk=>?_⟩,?_,hcp,(hf p).trans (h.froz p)⟩
 ·rw [hset k]
  by_cases e:k=p
  ·simp [updV,e]
  ·simp only [updV,e,if_false];exact (hc k).trans (h.cell k hk)
 ·by_cases e:k=p
  ·subst e;simp only [updV,updR,if_true]
   exact hnew.same fun g e=>hoth g (fun e'=>hv'ne (e'▸e))
  ·simp only [updV,updR,e,if_false]
   refine (h.own k hk).same fun g eg=>?_
   have hlt:=(h.own k hk).lt g eg
   rw [hoth g (fun e'=>h.off k hk (e'▸eg)),hg.block g (by rw [World.size_alloc];omega) (fun e'=>h.apart k p hk hp e g eg e'.symm),Below.heap_alloc _ _ _ hlt]
 ·by_cases ej:j=p
  ·have ek:¬k=p:=fun h=>hne (ej.trans h.symm)
   simp only [updV,ej,if_true] at e
   simp only [updV,ek,if_false]
   intro e2
   rcases hat with e' | e'
   ·exact h.apart p k hp hk (fun h=>ek h.symm) g (e'▸e) e2
   ·rw [e'] at e;have:=(h.own k hk).lt g e2;simp at e;omega
  ·simp only [updV,ej,if_false] at e
   by_cases ek:k=p
   ·simp only [updV,ek,if_true]
    intro e2
    rcases hat with e' | e'
    ·exact h.apart j p hj hp ej g e (e'▸e2)
    ·rw [e'] at e2;have:=(h.own j hj).lt g e;simp at e2;omega
   ·simp only [updV,ek,if_false];exact h.apart j k hj hk hne g e
 ·by_cases e:k=p
  ·simp only [updV,e,if_true];exact hv'ne
  ·simp only [updV,e,if_false];exact h.off k hk
 ·by_cases e:k=p
  ·simp only [updR,e,if_true,List.length_append,List.length_cons,List.length_nil];omega
  ·simp only [updR,e,if_false];exact h.len k hk
 ·have b1:Below base w w':=((Below.refl base w).alloc hbw _).grown hg (by rw [World.size_alloc];omega) (h.own p hp).block
  exact b1.setCell hb _
open Classical in
noncomputable def Tr.sndN (T:Tr) (x:NN):NN:=if h:x.1<T.n∧x.2<T.en x.1 then (T.snd ⟨x,h⟩).1 else (0,0)
theorem Tr.sndN_eq (T:Tr) (x:T.Id):T.sndN x.1=(T.snd x).1:=by
 unfold Tr.sndN;rw [dif_pos x.2]
def Tr.Ready (T:Tr) (rows:Nat→List Int) (p:Nat):Prop:=
 (rows p).length<T.en p∧(T.kind p (rows p).length=3→(T.sndN (p,(rows p).length)).2<(rows (T.sndN (p,(rows p).length)).1).length)
noncomputable def Tr.next (T:Tr) (rows:Nat→List Int) (p:Nat):Int:=
 max (if (rows p).length=0 then 0 else (rows p).getD ((rows p).length - 1) 0)
  (if T.kind p (rows p).length=3 then (rows (T.sndN (p,(rows p).length)).1).getD (T.sndN (p,(rows p).length)).2 0 else 0)+1
theorem infoInt:(Tryz.prog.info? 3).map (fun i=>(i.zero,i.size,i.bytes))=some (some (.int .i64 0),1,8):=by kernel_rfl
def SmallR (n:Nat) (rows:Nat→List Int):Prop:=∀ k i,k<n→i<(rows k).length→0≤(rows k).getD i 0∧(rows k).getD i 0<1000000000
theorem own_slice {w:World} {base:Nat} {t:TypeId} {v:Value} {n:Nat} {xs:List Value} (h:w.ownsRow base t 1 v (n+1) xs):∃ a c,v=.slice a (n+1) c:=by
 obtain ⟨_,⟨hv,hn⟩ | ⟨g,cap,cur,hv,_⟩⟩:=h
 ·omega
 ·exact ⟨_,_,hv⟩
end Go.Proofs.YtmhapcnlpoilpaaGreatDoor

namespace Go.Proofs.YtmhapcnlpoilpaaGreatDoor
open Go.RowKit Go.Shelf
theorem Ltr.of_from {T:Tr}:∀ (l:List T.Id) (L:Ltr) (m:Nat),((l.foldl (Ltr.step T) L).ti m=L.ti m∧(l.foldl (Ltr.step T) L).tp m=L.tp m)∨∃ x,x∈l∧T.kind x.1.1 x.1.2=3∧(T.msg x.1.1 x.1.2).toNat=m∧(l.foldl (Ltr.step T) L).tp m=x.1.1∧(l.foldl (Ltr.step T) L).ti m=x.1.2+1
 | [],_,_ => .inl ⟨rfl,rfl⟩
 | a :: l,L,m => by
  rw [List.foldl_cons]
  rcases Ltr.of_from l (Ltr.step T L a) m with ⟨h1,h2⟩ | ⟨x,hx,h⟩
  ·rw [h1,h2]
   by_cases k2:T.kind a.1.1 a.1.2=2
   ·left;unfold Ltr.step;rw [if_pos k2];exact ⟨rfl,rfl⟩
   ·by_cases k3:T.kind a.1.1 a.1.2=3
    ·by_cases hm:(T.msg a.1.1 a.1.2).toNat=m
     ·right;refine ⟨a,List.mem_cons_self,k3,hm,?_⟩
      unfold Ltr.step;rw [if_neg k2,if_pos k3];simp [upd,hm]
     ·left;unfold Ltr.step;rw [if_neg k2,if_pos k3];simp [upd,Ne.symm hm]
    ·left;unfold Ltr.step;rw [if_neg k2,if_neg k3];exact ⟨rfl,rfl⟩
  ·exact .inr ⟨x,List.mem_cons_of_mem _ hx,h⟩
theorem Tr.Valid.letter {T:Tr} (h:T.Valid) (y:T.Id) (hy:T.kind y.1.1 y.1.2=3):(Ltr.of T T.evs).tp (T.msg y.1.1 y.1.2).toNat=y.1.1∧(Ltr.of T T.evs).ti (T.msg y.1.1 y.1.2).toNat=y.1.2+1:=by
 have hf:=h.formed y
 have hp:=Ltr.of_ti h.formed T.evs Ltr.zero (T.msg y.1.1 y.1.2).toNat (.inr ⟨y,evs_all y,hy,by rcases hf with h | h <;> omega⟩)
 rcases Ltr.of_from T.evs Ltr.zero (T.msg y.1.1 y.1.2).toNat with ⟨h1,_⟩ | ⟨x,_,k3,hm,h1,h2⟩
 ·rw [h1] at hp;exact absurd hp (by simp [Ltr.zero])
 ·have hfx:=h.formed x
  have:x=y:=h.uniq3 k3 hy (by rcases hf with h | h <;> rcases hfx with h' | h' <;> omega)
  subst this;exact ⟨h1,h2⟩
def Tr.Dir (T:Tr) (x y:NN):Prop:=(y.1=x.1∧y.2=x.2+1)∨(T.kind y.1 y.2=3∧x=T.sndN y)
theorem Tr.sndN_V {T:Tr} {y:NN} (hy:T.V y):T.V (T.sndN y):=by
 have:=T.sndN_eq ⟨y,hy⟩
 simp only at this
 rw [this];exact (T.snd ⟨y,hy⟩).2
theorem Tr.Valid.sndN {T:Tr} (h:T.Valid) {y:NN} (hy:T.V y) (k3:T.kind y.1 y.2=3):T.kind (T.sndN y).1 (T.sndN y).2=2∧T.msg (T.sndN y).1 (T.sndN y).2=T.msg y.1 y.2:=by
 have:=T.sndN_eq ⟨y,hy⟩
 simp only at this
 rw [this];exact (h.snd ⟨y,hy⟩ k3).2
theorem Tr.Dir.V {T:Tr} {x y:NN} (hy:T.V y) (h:T.Dir x y):T.V x:=by
 rcases h with ⟨h1,h2⟩ | ⟨_,h⟩
 ·obtain ⟨a,b⟩:=hy;rw [h1] at a b;exact ⟨a,by omega⟩
 ·rw [h];exact Tr.sndN_V hy
theorem Tr.Valid.dir_succ {T:Tr} (h:T.Valid) {x y:NN} (hy:T.V y) (hd:T.Dir x y):y∈T.succ (Ltr.of T T.evs) x:=by
 unfold Tr.succ
 rcases hd with ⟨h1,h2⟩ | ⟨k3,he⟩
 ·have hlt:x.2+1<T.en x.1:=by rw [←h1,←h2];exact hy.2
  rw [if_pos hlt]
  exact List.mem_append_left _ (List.mem_singleton.2 (Prod.ext h1 h2))
 ·subst he
  obtain ⟨k2,hm⟩:=h.sndN hy k3
  have hl:=h.letter ⟨y,hy⟩ k3
  simp only at hl
  rw [hm]
  refine List.mem_append_right _ ?_
  rw [if_pos ⟨k2,by rw [hl.2];omega⟩,hl.1,hl.2]
  refine List.mem_singleton.2 (Prod.ext ?_ ?_)
  ·simp
  ·simp
theorem Tr.Valid.ind {T:Tr} (h:T.Valid) {P:NN→Prop} (step:∀ y,T.V y→(∀ x,T.V x→T.Dir x y→P x)→P y):∀ y,T.V y→P y:=by
 refine fun y0 hy0=>Classical.byContradiction fun hn0=>?_
 have key:∀ n,∃ (z:NN) (S:List NN),(z :: S).Nodup∧S.length=n∧¬P z∧(∀ u,u∈z :: S→T.V u)∧∀ u,u∈S→Path (T.succ (Ltr.of T T.evs)) z u:=by
  intro n
  induction n with
  | zero => exact ⟨y0,[],by simp,rfl,hn0,by simpa using hy0,by simp⟩
  | succ n ih =>
   obtain ⟨z,S,hnd,hl,hz,hv,hp⟩:=ih
   have hvz:=hv z List.mem_cons_self
   obtain ⟨x,hx,hd,hnx⟩:∃ x,T.V x∧T.Dir x z∧¬P x:=Classical.byContradiction fun hc=>hz (step z hvz fun x hx hd=>Classical.byContradiction fun hnx=>hc ⟨x,hx,hd,hnx⟩)
   have hs:=h.dir_succ hvz hd
   have hpx:∀ u,u∈z :: S→Path (T.succ (Ltr.of T T.evs)) x u:=by
    intro u hu
    rcases List.mem_cons.1 hu with e | hu
    ·subst e;exact Path.one hs
    ·obtain ⟨k,hk⟩:=hp u hu;exact ⟨k+1,z,hs,hk⟩
   refine ⟨x,z :: S,?_,by simp [hl],hnx,?_,hpx⟩
   ·refine List.nodup_cons.2 ⟨fun hm=>h.acy ⟨⟨x,hx⟩,hpx x hm⟩,hnd⟩
   ·intro u hu
    rcases List.mem_cons.1 hu with e | hu
    ·subst e;exact hx
    ·exact hv u hu
 obtain ⟨z,S,hnd,hl,_,hv,_⟩:=key T.evs.length
 have:=evs_count hnd hv
 simp at this;omega
def tot (f:Nat→Nat):Nat→Nat | 0=>0 | n+1=>tot f n+f n
theorem tot_le {f g:Nat→Nat}:∀ {n:Nat},(∀ k,k<n→f k≤g k)→tot f n≤tot g n
 | 0,_ => Nat.le_refl _
 | n+1,h => Nat.add_le_add (tot_le fun k hk => h k (by omega)) (h n (by omega))
theorem tot_congr {f g:Nat→Nat}:∀ {n:Nat},(∀ k,k<n→f k=g k)→tot f n=tot g n
 | 0,_ => rfl
 | n+1,h => by unfold tot;rw [tot_congr fun k hk => h k (by omega),h n (by omega)]
theorem tot_one {f g:Nat→Nat} {p:Nat}:∀ {n:Nat},p<n→(∀ k,k≠p→f k=g k)→f p=g p+1→tot f n=tot g n+1
 | n+1,hp,h,h1 => by
  unfold tot
  by_cases e:p=n
  ·subst e;rw [tot_congr (g:=g) fun k hk=>h k (by omega),h1];omega
  ·rw [tot_one (n:=n) (by omega) h h1,h n (Ne.symm e)];omega
theorem tot_small {f:Nat→Nat} {c:Nat}:∀ {n:Nat},(∀ k,k<n→f k≤c)→tot f n≤n*c
 | 0,_ => by simp [tot]
 | n+1,h => by unfold tot;rw [Nat.succ_mul];exact Nat.add_le_add (tot_small fun k hk => h k (by omega)) (h n (by omega))
structure Tr.Part (T:Tr) (rows:Nat→List Int):Prop where
 le:∀ k,k<T.n→(rows k).length≤T.en k
 eq:∀ k i,k<T.n→i<(rows k).length→(rows k).getD i 0=max (if i=0 then 0 else (rows k).getD (i - 1) 0) (if T.kind k i=3 then (rows (T.sndN (k,i)).1).getD (T.sndN (k,i)).2 0 else 0)+1
 got:∀ k i,k<T.n→i<(rows k).length→T.kind k i=3→(T.sndN (k,i)).2<(rows (T.sndN (k,i)).1).length
 sm:∀ k i,k<T.n→i<(rows k).length→1≤(rows k).getD i 0∧(rows k).getD i 0≤(tot (fun k=>(rows k).length) T.n:Nat)
theorem Tr.Part.nil (T:Tr):T.Part fun _=>[]:=⟨fun _ _=>Nat.zero_le _,fun _ _ _ h=>absurd h (by simp),fun _ _ _ h=>absurd h (by simp),fun _ _ _ h=>absurd h (by simp)⟩
theorem updR_len (rows:Nat→List Int) (p:Nat) (x:Int) (k:Nat):(updR rows p (rows p++[x]) k).length=(rows k).length+if k=p then 1 else 0:=by
 unfold updR
 by_cases e:k=p
 ·subst e;simp
 ·simp [e]
theorem updR_get (rows:Nat→List Int) (p:Nat) (x:Int) (k i:Nat) (h:i<(rows k).length):(updR rows p (rows p++[x]) k).getD i 0=(rows k).getD i 0:=by
 unfold updR
 by_cases e:k=p
 ·subst e;simp only [if_true,List.getD_eq_getElem?_getD];rw [List.getElem?_append_left h]
 ·simp [e]
theorem updR_last (rows:Nat→List Int) (p:Nat) (x:Int):(updR rows p (rows p++[x]) p).getD (rows p).length 0=x:=by
 unfold updR;simp
theorem Tr.Part.push {T:Tr} {rows:Nat→List Int} (h:T.Part rows) {p:Nat} (hp:p<T.n) (hr:T.Ready rows p):T.Part (updR rows p (rows p++[T.next rows p])):=by
 have hv:∀ k i,k<T.n→i<T.en k→T.V (T.sndN (k,i)):=fun k i hk hi=>Tr.sndN_V (y:=(k,i)) ⟨hk,hi⟩
 have hlen:=updR_len rows p (T.next rows p)
 have htot:tot (fun k=>(updR rows p (rows p++[T.next rows p]) k).length) T.n=tot (fun k=>(rows k).length) T.n+1:=
  tot_one hp (fun k hk=>by rw [hlen,if_neg hk];rfl) (by rw [hlen,if_pos rfl])
 have hold:∀ k i,k<T.n→i<(updR rows p (rows p++[T.next rows p]) k).length→i<(rows k).length∨(k=p∧i=(rows p).length):=by
  intro k i _ hi;rw [hlen] at hi
  by_cases e:k=p
  ·subst e;rw [if_pos rfl] at hi;omega
  ·rw [if_neg e] at hi;omega
 have hge:∀ k i,i<(rows k).length→(updR rows p (rows p++[T.next rows p]) k).getD i 0=(rows k).getD i 0:=fun k i h=>updR_get rows p _ k i h
 have hnx:1≤T.next rows p∧T.next rows p≤(tot (fun k=>(rows k).length) T.n:Nat)+1:=by
  unfold Tr.next
  have a1:(0:Int)≤(if (rows p).length=0 then 0 else (rows p).getD ((rows p).length - 1) 0)∧(if (rows p).length=0 then 0 else (rows p).getD ((rows p).length - 1) 0)≤(tot (fun k=>(rows k).length) T.n:Nat):=by
   by_cases e:(rows p).length=0
   ·rw [if_pos e];exact ⟨Int.le_refl _,Int.natCast_nonneg _⟩
   ·rw [if_neg e];have:=h.sm p ((rows p).length - 1) hp (by omega);omega
  have a2:(if T.kind p (rows p).length=3 then (rows (T.sndN (p,(rows p).length)).1).getD (T.sndN (p,(rows p).length)).2 0 else 0)≤(tot (fun k=>(rows k).length) T.n:Nat):=by
   by_cases e:T.kind p (rows p).length=3
   ·rw [if_pos e];exact (h.sm _ _ (hv p _ hp hr.1).1 (hr.2 e)).2
   ·rw [if_neg e];exact Int.natCast_nonneg _
  omega
 refine ⟨fun k hk=>?_,fun k i hk hi=>?_,fun k i hk hi k3=>?_,fun k i hk hi=>?_⟩
 ·rw [hlen]
  by_cases e:k=p
  ·subst e;rw [if_pos rfl];exact hr.1
  ·rw [if_neg e];exact h.le k hk
 ·rcases hold k i hk hi with hi | ⟨rfl,rfl⟩
  ·rw [hge k i hi,h.eq k i hk hi]
   congr 2
   ·by_cases e:i=0
    ·rw [if_pos e,if_pos e]
    ·rw [if_neg e,if_neg e,hge k (i - 1) (by omega)]
   ·by_cases e:T.kind k i=3
    ·rw [if_pos e,if_pos e,hge _ _ (h.got k i hk hi e)]
    ·rw [if_neg e,if_neg e]
  ·rw [updR_last]
   unfold Tr.next
   congr 2
   ·by_cases e:(rows k).length=0
    ·rw [if_pos e,if_pos e]
    ·rw [if_neg e,if_neg e];exact (updR_get rows k _ k _ (by omega)).symm
   ·by_cases e:T.kind k (rows k).length=3
    ·rw [if_pos e,if_pos e];exact (updR_get rows k _ _ _ (hr.2 e)).symm
    ·rw [if_neg e,if_neg e]
 ·rw [hlen]
  rcases hold k i hk hi with hi | ⟨rfl,rfl⟩
  ·exact Nat.lt_add_right _ (h.got k i hk hi k3)
  ·exact Nat.lt_add_right _ (hr.2 k3)
 ·rw [htot]
  rcases hold k i hk hi with hi | ⟨rfl,rfl⟩
  ·rw [hge k i hi];have:=h.sm k i hk hi;omega
  ·rw [updR_last];omega
def Tr.left (T:Tr) (rows:Nat→List Int):Nat:=tot T.en T.n - tot (fun k=>(rows k).length) T.n
theorem Tr.Part.left {T:Tr} {rows:Nat→List Int} (h:T.Part rows) {p:Nat} (hp:p<T.n) (hr:T.Ready rows p):T.left (updR rows p (rows p++[T.next rows p]))<T.left rows:=by
 have h1:=tot_le (h.push hp hr).le
 have h2:tot (fun k=>(updR rows p (rows p++[T.next rows p]) k).length) T.n=tot (fun k=>(rows k).length) T.n+1:=
  tot_one hp (fun k hk=>by rw [updR_len,if_neg hk];rfl) (by rw [updR_len,if_pos rfl])
 unfold Tr.left;omega
theorem Tr.Part.small {T:Tr} {rows:Nat→List Int} (h:T.Part rows) (hn:T.n≤8) (he:∀ k,k<T.n→T.en k≤1000000):SmallR T.n rows:=by
 intro k i hk hi
 have h1:=h.sm k i hk hi
 have h2:=tot_le h.le
 have h3:=tot_small he
 have h4:T.n*1000000≤8000000:=by omega
 omega
structure Tr.Stamps (T:Tr) (rows:Nat→List Int):Prop where
 len:∀ k,k<T.n→(rows k).length=T.en k
 eq:∀ k i,k<T.n→i<T.en k→(rows k).getD i 0=max (if i=0 then 0 else (rows k).getD (i - 1) 0) (if T.kind k i=3 then (rows (T.sndN (k,i)).1).getD (T.sndN (k,i)).2 0 else 0)+1
 sm:∀ k i,k<T.n→i<T.en k→1≤(rows k).getD i 0∧(rows k).getD i 0≤(tot T.en T.n:Nat)
theorem Tr.Part.full {T:Tr} {rows:Nat→List Int} (h:T.Part rows) (hV:T.Valid) (hs:∀ p,p<T.n→¬T.Ready rows p):T.Stamps rows:=by
 have all:∀ y,T.V y→y.2<(rows y.1).length:=by
  refine hV.ind fun y hy ih=>?_
  have hlt:∀ i,i≤y.2→i≤(rows y.1).length:=by
   intro i hi
   cases i with
   | zero => exact Nat.zero_le _
   | succ i =>
    -- the event before
    rcases Nat.lt_or_ge i y.2 with hh | hh
    ·have:=ih (y.1,y.2 - 1) ⟨hy.1,Nat.lt_of_le_of_lt (Nat.sub_le _ _) hy.2⟩ (.inl ⟨rfl,by show y.2=y.2 - 1+1;omega⟩)
     simp only at this;omega
    ·omega
  have hle:=hlt y.2 (Nat.le_refl _)
  refine Nat.lt_of_le_of_ne hle fun e=>hs y.1 hy.1 ⟨by rw [←e];exact hy.2,fun k3=>?_⟩
  rw [←e] at k3 ⊢
  exact ih (T.sndN y) (Tr.sndN_V hy) (.inr ⟨k3,rfl⟩)
 have hlen:∀ k,k<T.n→(rows k).length=T.en k:=by
  intro k hk
  refine Nat.le_antisymm (h.le k hk) ?_
  rcases Nat.eq_zero_or_pos (T.en k) with e | e
  ·omega
  ·have:=all (k,T.en k - 1) ⟨hk,by show T.en k - 1<T.en k;omega⟩
   simp only at this;omega
 exact ⟨hlen,fun k i hk hi=>h.eq k i hk (by rw [hlen k hk];exact hi),fun k i hk hi=>by rw [←tot_congr hlen];exact h.sm k i hk (by rw [hlen k hk];exact hi)⟩
end Go.Proofs.YtmhapcnlpoilpaaGreatDoor

namespace Go.Proofs.YtmhapcnlpoilpaaGreatDoor
open Go.RowKit
theorem Tr.evsTo_mem {T:Tr} {k i:Nat} {x:T.Id} (h:x∈T.evsTo k i):x.1.1<k∨(x.1.1=k∧x.1.2<i):=by
 unfold Tr.evsTo at h
 rcases List.mem_append.1 h with h | h
 ·obtain ⟨p,hp,h⟩:=List.mem_flatMap.1 h
  obtain ⟨j,hj,h⟩:=List.mem_filterMap.1 h
  unfold Tr.mk? at h
  split at h
  ·cases h;exact .inl (List.mem_range.1 hp)
  ·cases h
 ·obtain ⟨j,hj,h⟩:=List.mem_filterMap.1 h
  unfold Tr.mk? at h
  split at h
  ·cases h;exact .inr ⟨rfl,List.mem_range.1 hj⟩
  ·cases h
theorem Tr.evsTo_tot (T:Tr):∀ (k i:Nat),k<T.n→i≤T.en k→(T.evsTo k i).length=tot T.en k+i
 | 0,0,_,_ => rfl
 | k+1,0,hk,_ => by rw [←Tr.evsTo_next,Tr.evsTo_tot T k (T.en k) (by omega) (Nat.le_refl _)];rfl
 | k,i+1,hk,hi => by rw [Tr.evsTo_succ _ _ _ hk hi,List.length_append,Tr.evsTo_tot T k i hk (by omega)];rfl
theorem Tr.evs_tot (T:Tr):T.evs.length=tot T.en T.n:=by
 unfold Tr.evs
 cases h:T.n with
 | zero => rfl
 | succ n => rw [←Tr.evsTo_next,Tr.evsTo_tot T n (T.en n) (by omega) (Nat.le_refl _)];rfl
end Go.Proofs.YtmhapcnlpoilpaaGreatDoor

namespace Go.Proofs.YtmhapcnlpoilpaaGreatDoor
open Go.RowKit Go.Shelf
structure EvRow (w:World) (g n:Nat) (f:Nat→Int × Int):Prop where
 c0:∀ k,k<n→w.cell? ⟨g,k*2,none⟩=some (.int .i64 (f k).1)
 c1:∀ k,k<n→w.cell? ⟨g,k*2+1,none⟩=some (.int .i64 (f k).2)
 fr:∀ o,w.frozen? ⟨g,o,none⟩=false
theorem EvOwn.row {w:World} {base:Nat} {v:Value} {l:List (Int × Int)} (h:EvOwn w base v l) (h0:0<l.length):∃ g cap,v=.slice (some ⟨g,0,none⟩) l.length cap∧base≤g∧EvRow w g l.length (fun k=>l.getD k (0,0)):=by
 obtain ⟨h1,⟨hv,hn⟩ | ⟨g,cap,cur,hv,hg,hh,hc,hm,hs,ht⟩⟩:=h
 ·omega
 ·have hb:=Box.of hh
  have hget:∀ j,j<l.length*2→cur[j]?=(evCells l)[j]?:=by
   intro j hj
   rw [←ht,List.getElem?_take_of_lt hj];simp
  refine ⟨g,cap,hv,hg,fun k hk=>?_,fun k hk=>?_,fun o=>hb.frozen w (Ext.refl _) o⟩
  ·rw [hb.cell w (Ext.refl _),hget _ (by omega),evCells_get0 l k hk,List.getD_eq_getElem?_getD,List.getElem?_eq_getElem hk];rfl
  ·rw [hb.cell w (Ext.refl _),hget _ (by omega),evCells_get1 l k hk,List.getD_eq_getElem?_getD,List.getElem?_eq_getElem hk];rfl
theorem evOwn_one {w:World} {base g:Nat} {x y:Int} (h:w.heap[g]?=some (.cells #[.int .i64 x,.int .i64 y] 47 (0,0))) (hb:base≤g):EvOwn w base (.slice (some ⟨g,0,none⟩) 1 1) [(x,y)]:=
 ⟨rfl,.inr ⟨g,1,_,rfl,hb,h,Nat.le_refl _,by unfold maxLen;omega,rfl,rfl⟩⟩
end Go.Proofs.YtmhapcnlpoilpaaGreatDoor
