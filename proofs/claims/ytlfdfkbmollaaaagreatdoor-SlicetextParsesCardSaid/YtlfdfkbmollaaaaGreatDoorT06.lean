/- Contracts and laws in plain Lean for RApp: group T06. -/
import Derived.Test.YtlfdfkbmollaaaaGreatDoorT05
import Derived.Maps.AppendAt
import Derived.Deep.LoopGhost
import Derived.Test.YtlfdfkbmollaaaaGreatDoorT01
set_option maxRecDepth 100000
namespace Go.Proofs.YtlfdfkbmollaaaaGreatDoor
open Go.RowKit Go.Shelf
attribute [local go_sem] Oper.semAt_some
theorem Ltr.step_ok {T:Tr} {L:Ltr} (h:L.Ok T) (x:T.Id):(Ltr.step T L x).Ok T:=by
 intro m hm ht
 unfold Ltr.step at ht ⊢
 by_cases h2:T.kind x.1.1 x.1.2=2
 ·rw [if_pos h2] at ht ⊢;exact h m hm ht
 ·rw [if_neg h2] at ht ⊢
  by_cases h3:T.kind x.1.1 x.1.2=3
  ·rw [if_pos h3] at ht ⊢
   by_cases e:m=(T.msg x.1.1 x.1.2).toNat
   ·exact ⟨x.1.1,x.1.2,x.2.1,x.2.2,by simp [upd,e],by simp [upd,e]⟩
   ·simp only [upd,e,if_false] at ht ⊢;exact h m hm ht
  ·rw [if_neg h3] at ht ⊢;exact h m hm ht
theorem Ltr.foldl_ok {T:Tr}:∀ (l:List T.Id) (L:Ltr),L.Ok T→(l.foldl (Ltr.step T) L).Ok T
 | [],_,h => h
 | x :: l,_,h => Ltr.foldl_ok l _ (Ltr.step_ok h x)
theorem Ltr.of_ok (T:Tr) (l:List T.Id):(Ltr.of T l).Ok T:=Ltr.foldl_ok l _ (fun m _ h=>absurd h (by simp [Ltr.zero]))
theorem Tr.evsTo_len (T:Tr) (k i:Nat):(T.evsTo k i).length≤(T.evsTo k 0).length+i:=by
 unfold Tr.evsTo
 have:=List.length_filterMap_le (T.mk? k) (List.range i)
 simp only [List.length_append,List.length_range] at this ⊢
 simp;omega
theorem Tr.evs_len (T:Tr) (h:∀ k,k<T.n→T.en k≤64):∀ k,k≤T.n→(T.evsTo k 0).length≤64*k:=by
 intro k
 induction k with
 | zero => intro _;simp [Tr.evsTo]
 | succ k ih =>
  intro hk
  have h1:=ih (by omega)
  have h2:=T.evsTo_len k (T.en k)
  have h3:=h k (by omega)
  rw [T.evsTo_next] at h2
  omega
structure Tr.Valid (T:Tr):Prop where
 n1:1≤T.n
 n8:T.n≤8
 pr:∀ k,k<T.n→T.PrOk k
 ev:∀ k i,k<T.n→i<T.en k→T.EvOk k i
 msg:T.OkList T.evs
 acy:¬ ∃ x:T.Id,Path (T.succ (Ltr.of T T.evs)) x.1 x.1
def FaultPost (T:TM) (w:World) (e:Ending) (w':World):Prop:=Ext w w'∧∃ p q c:Int,e=.returned (.tuple #[.agg #[.int .i64 p,.int .i64 q],.int .i64 c])∧(c=0↔T.toTr.Valid)
structure FauI (T:TM) (w:World) (pre:List T.toTr.Id) (W:World):Prop where
 h0:Hold W w.heap.size #[.slice T.a T.n T.cap]
 h1:Hold W (w.heap.size+1) #[.int .i64 0,.int .i64 0]
 h2:Hold W (w.heap.size+1+1) #[.int .i64 0]
 bl:Below w.heap.size w W
 ok:∀ x,x∈pre→T.toTr.EvOk x.1.1 x.1.2
structure FauX (T:TM) (w:World) (pre:List T.toTr.Id) (W:World):Prop where
 res:∃ p q c:Int,c≠0∧Hold W (w.heap.size+1) #[.int .i64 p,.int .i64 q]∧Hold W (w.heap.size+1+1) #[.int .i64 c]
 bl:Below w.heap.size w W
 bad:∃ x:T.toTr.Id,¬T.toTr.EvOk x.1.1 x.1.2
theorem FauI.own (T:TM) (w w0:World) (h:w.heap.size≤w0.heap.size):OwnFrom w0.heap.size (FauI T w):=by
 intro s W W' row hi hg hr
 exact ⟨Hold.own _ _ (fun _=>_) s W W' row hi.h0 hg hr,Hold.own _ _ (fun _=>_) s W W' row hi.h1 hg hr,Hold.own _ _ (fun _=>_) s W W' row hi.h2 hg hr,ownFrom_below (Nat.le_refl _) h s W W' row hi.bl hg hr,hi.ok⟩
theorem FauX.own (T:TM) (w w0:World) (h:w.heap.size≤w0.heap.size):OwnFrom w0.heap.size (FauX T w):=by
 intro s W W' row ⟨⟨p,q,c,hc,a,b⟩,hb,hbad⟩ hg hr
 exact ⟨⟨p,q,c,hc,Hold.own _ _ (fun _=>_) s W W' row a hg hr,Hold.own _ _ (fun _=>_) s W W' row b hg hr⟩,ownFrom_below (Nat.le_refl _) h s W W' row hb hg hr,hbad⟩
theorem FauI.ext {T:TM} {w:World} {pre:List T.toTr.Id} {W W':World} (h:FauI T w pre W) (x:Ext W W'):FauI T w pre W':=
 ⟨h.h0.ext x,h.h1.ext x,h.h2.ext x,h.bl.trans (Below.mono x h.bl.size),h.ok⟩
structure FauA (T:TM) (w:World) (x:T.toTr.Id) (bx:Nat) (W:World):Prop where
 hx:Hold W bx #[.int .i64 x.1.1,.int .i64 (x.1.2+1)]
 hy:Hold W (bx+1) (T.evc x.1.1 x.1.2)
 lt:w.heap.size+1+1<bx
theorem FauA.new {T : TM} {w : World} {pre : List T.toTr.Id} {W : World} (h : FauI T w pre W) {x : T.toTr.Id} {t u : TypeId} :
    FauA T w x W.heap.size ((W.alloc (.cells #[.int .i64 x.1.1,.int .i64 (x.1.2+1)] t)).alloc (.cells (T.evc x.1.1 x.1.2) u)):=by
 refine ⟨Hold.ext (W:=W.alloc (.cells #[.int .i64 x.1.1,.int .i64 (x.1.2+1)] t)) (Hold.new _ _ _) (Ext.alloc _ _),⟨u,?_⟩,h.h2.lt⟩
 show ((W.heap.push _).push _)[W.heap.size+1]?=_
 rw [Array.getElem?_push,if_pos (by simp)]
theorem fau_results (tmps : Array Value) (W : World) (b2 b3 : Nat) (x y z : Value) (t2 : tmps[2]? = some (.pointer (some ⟨b2, 0, none⟩))) (t3 : tmps[3]? = some (.pointer (some ⟨b3, 0, none⟩)))
    (c2:W.cell? ⟨b2,0,none⟩=some x) (c2':W.cell? ⟨b2,1,none⟩=some y) (c3:W.cell? ⟨b3,0,none⟩=some z) :
    (results Tryz.f83 tmps).run Tryz.prog W=.ok (.tuple #[.agg #[x,y],z]) W:=by
 simp [results,Tryz.results83,go_sem,t2,t3,c2,c2',c3]
theorem fau_set {w W : World} (h1 : Hold W (w.heap.size + 1) #[.int .i64 0, .int .i64 0]) (h2 : Hold W (w.heap.size + 1 + 1) #[.int .i64 0]) (bl : Below w.heap.size w W) (p q c : Int) :
    ∀ W9,W9=((W.setCell ⟨w.heap.size+1,0,none⟩ (.int .i64 p)).setCell ⟨w.heap.size+1,1,none⟩ (.int .i64 q)).setCell ⟨w.heap.size+1+1,0,none⟩ (.int .i64 c)→
    Hold W9 (w.heap.size+1) #[.int .i64 p,.int .i64 q]∧Hold W9 (w.heap.size+1+1) #[.int .i64 c]∧Below w.heap.size w W9∧(∀ B,KeepsFrom B W W9)∧(∀ D,w.heap.size+3≤D→W9.heap[D]?=W.heap[D]?):=by
 rintro W9 rfl
 refine ⟨?_,?_,?_,fun B=>((keeps_set _ _ _ _).trans (keeps_set _ _ _ _)).trans (keeps_set _ _ _ _),fun D hD=>?_⟩
 ·have a2:=(h1.set 0 (.int .i64 p)).set 1 (.int .i64 q)
  simp only [List.setIfInBounds_toArray,List.set_cons_zero,List.set_cons_succ] at a2
  exact a2.other _ _ (by dsimp only;omega)
 ·have a1:=(h2.other ⟨w.heap.size+1,0,none⟩ (.int .i64 p) (by dsimp only;omega)).other ⟨w.heap.size+1,1,none⟩ (.int .i64 q) (by dsimp only;omega)
  have a2:=a1.set 0 (.int .i64 c)
  simp only [List.setIfInBounds_toArray,List.set_cons_zero] at a2
  exact a2
 ·exact ((bl.setCell (by dsimp only;omega) _).setCell (by dsimp only;omega) _).setCell (by dsimp only;omega) _
 ·rw [Below.heap_setCell _ _ _ _ (by dsimp only;omega),Below.heap_setCell _ _ _ _ (by dsimp only;omega),Below.heap_setCell _ _ _ _ (by dsimp only;omega)]
theorem fau_end {T : TM} {w W W5 : World} (h1 : Hold W (w.heap.size + 1) #[.int .i64 0, .int .i64 0]) (h2 : Hold W (w.heap.size + 1 + 1) #[.int .i64 0]) (bl : Below w.heap.size w W) (hx : Ext W W5) (p q c : Int) (D : Nat) (hD : w.heap.size + 3 ≤ D) (hK : W.heap[D]? = some (.deferred (some [])))
    (hv:c=0↔T.toTr.Valid) :
    ∀ W9 W8,W8=((W5.setCell ⟨w.heap.size+1,0,none⟩ (.int .i64 p)).setCell ⟨w.heap.size+1,1,none⟩ (.int .i64 q)).setCell ⟨w.heap.size+1+1,0,none⟩ (.int .i64 c)→Ext W8 W9→
    W9.heap[D]?=some (.deferred (some []))∧(W9.putObj D (.deferred none)).cell? ⟨w.heap.size+1,0,none⟩=some (.int .i64 p)∧(W9.putObj D (.deferred none)).cell? ⟨w.heap.size+1,1,none⟩=some (.int .i64 q)∧(W9.putObj D (.deferred none)).cell? ⟨w.heap.size+1+1,0,none⟩=some (.int .i64 c)∧
    FaultPost T w (.returned (.tuple #[.agg #[.int .i64 p,.int .i64 q],.int .i64 c])) (W9.putObj D (.deferred none)):=by
 intro W9 W8 hW8 hx9
 obtain ⟨g1,g2,g3,-,g5⟩:=fau_set (Hold.ext h1 hx) (Hold.ext h2 hx) (bl.trans (Below.mono hx bl.size)) p q c W8 hW8
 have hlt:D<W.heap.size:=(Array.getElem?_eq_some_iff.1 hK).1
 have k8:W8.heap[D]?=some (.deferred (some [])):=(g5 D hD).trans ((hx.block D hlt).trans hK)
 have k9:W9.heap[D]?=some (.deferred (some [])):=(hx9.block D (Array.getElem?_eq_some_iff.1 k8).1).trans k8
 have e1:=(g1.ext hx9).putObj D (.deferred none) (by omega)
 have e2:=(g2.ext hx9).putObj D (.deferred none) (by omega)
 refine ⟨k9,e1.cell0 0,e1.cell0 1,e2.cell0 0,?_,p,q,c,rfl,hv⟩
 exact (g3.trans (Below.mono hx9 g3.size)).trans (belowK_b (w:=w) (Nat.le_refl _) W9 D (.deferred (some [])) _ (by omega) k9 rfl rfl)
set_option maxHeartbeats 8000000 in
theorem fault_any (w : World) (T : TM) (hT : T.At w) :
    Calls Tryz.prog 83 #[T.val] w (FaultPost T w):=by
 refine (callsIn_wide (n:=4)).1 ?_
 have hn:=hT.P.hn
 have HT:=Lib.hid hT
 clear hT
 refine callsIn_of_wp_marks Tryz.func83 rfl trivial ?_ rfl
 simp only [Tryz.ntmps83,List.size_toArray,List.length_cons,List.length_nil,Nat.reduceAdd,Nat.reduceSub,Array.replicate_succ,Array.replicate_zero,List.push_toArray,List.append_toArray,List.nil_append,List.cons_append]
 gi_upto_region 1 with fail
 refine boxed3 (w:=w) (G:=fun x=>Code.wpIn _ _ _ _ _ _ x) ?_
 intro w1 hx1 hs1 ⟨l0,c0,_,k0⟩ ⟨l1,c1,f1,k1⟩ ⟨l2,c2,f2,k2⟩
 have hx11:Ext w1 w1:=Ext.refl _
 have HS:=Lib.hid hs1
 clear hs1
 cases hin:inB (T.n:Int) 1 8 with
 | false =>
  gi_wp2_with (refine ⟨trivial,?_⟩;gi_at_call 129;refine (CallsIn.mono (callsIn_wide.2 (in_any _ _ _ _)) ?_);rintro e w' ⟨rfl,rfl⟩)
  obtain ⟨g1,g2,g3,-⟩:=fau_set k1 k2 hx1 0 0 1 _ rfl
  exact ⟨_,fau_results _ _ _ _ _ _ _ rfl rfl (g1.cell0 0) (g1.cell0 1) (g2.cell0 0),g3,0,0,1,rfl,⟨fun h=>absurd h (by decide),fun h=>by have:=h.n1;have:=h.n8;simp [inB] at hin;omega⟩⟩
 | true =>
  have hn8:1≤T.n∧T.n≤8:=by simp [inB] at hin;omega
  gi_wp2_with (refine ⟨trivial,?_⟩;gi_at_call 129;refine (CallsIn.mono (callsIn_wide.2 (in_any _ _ _ _)) ?_);rintro e w' ⟨rfl,rfl⟩)
  gi_loopw [23] (fun v wr=>∃ k:Nat,k≤T.n∧v=.int .i64 k∧Ext w1 wr∧∀ j,j<k→T.toTr.PrOk j) (fun v _=>T.n - (intOf v).toNat)
  case atStart=>exact ⟨0,Nat.zero_le _,rfl,hx11,fun j hj=>absurd hj (Nat.not_lt_zero _)⟩
  case round=>
   obtain ⟨k,hk,rfl,hxr,hok⟩:=hrel
   have HOK:=Lib.hid hok
   clear hok hx11
   have hxw:Ext w wr:=hx1.trans hxr
   by_cases hlt:k<T.n
   ·by_cases hpk:T.toTr.PrOk k
    ·have hP:Calls Tryz.prog 130 #[T.val,.int .i64 k] wr fun e w'=>e=.returned (.int .i64 0)∧Ext wr w':=(processFault_any wr T (HT.out.ext hxw) k hlt).mono fun e w' ⟨c,he,hc,hx⟩=>⟨by rw [he,hc.2 hpk],hx⟩
     gi_wp2_with (refine ⟨trivial,?_⟩;gi_at_call 130;refine (CallsIn.mono (callsIn_wide.2 hP) ?_);rintro e w5 ⟨rfl,hx5⟩)
     go_roundw
     case rel=>exact ⟨k+1,by omega,by go_num,hxr.trans hx5,fun j hj=>by
      by_cases e:j=k
      ·subst e;exact hpk
      ·exact HOK.out j (by omega)⟩
     case measure=>simp [intOf];omega
    ·have hP:Calls Tryz.prog 130 #[T.val,.int .i64 k] wr fun e w'=>∃ c:Int,e=.returned (.int .i64 c)∧(c != 0)=true∧Ext wr w':=(processFault_any wr T (HT.out.ext hxw) k hlt).mono fun e w' ⟨c,he,hc,hx⟩=>⟨c,he,by simpa using (fun h=>hpk (hc.1 h)),hx⟩
     gi_wp2_with (refine ⟨trivial,?_⟩;gi_at_call 130;refine (CallsIn.mono (callsIn_wide.2 hP) ?_);rintro e w5 ⟨c,rfl,hc,hx5⟩;have hx15:=hxr.trans hx5)
     obtain ⟨g1,g2,g3,-⟩:=fau_set (Hold.ext k1 hx15) (Hold.ext k2 hx15) (hx1.trans hx15) k 0 c _ rfl
     exact ⟨_,fau_results _ _ _ _ _ _ _ rfl rfl (g1.cell0 0) (g1.cell0 1) (g2.cell0 0),g3,k,0,c,rfl,⟨fun h=>absurd h (by simpa using hc),fun h=>absurd (h.pr k hlt) hpk⟩⟩
   ·have HOK2:=Lib.hid (show ∀ j,j<T.n→T.toTr.PrOk j from fun j hj=>HOK.out j (by omega))
    clear HOK
    have hev:=events_any T wr
    gi_wp2_with (refine ⟨trivial,?_⟩;gi_at_call 131;refine (CallsIn.mono (callsIn_wide.2 hev) ?_);rintro e w' ⟨rfl,rfl⟩)
    clear hev
    obtain ⟨w2,hw2⟩:∃ w2,w2=wr.alloc (.cells #[.slice T.a T.n T.cap] 24):=⟨_,rfl⟩
    rw [←hw2]
    have hx12:Ext wr w2:=by rw [hw2];exact Ext.alloc _ _
    have hbn:w2.cell? ⟨wr.heap.size,0,none⟩=some (.slice T.a T.n T.cap):=by rw [hw2];simp
    have hsz:w.heap.size+3≤w2.heap.size:=by rw [hw2];simp;have:=HS.out;have:=hxr.le;omega
    have hx1w2:=hxr.trans hx12
    have hI0:FauI T w [] w2:=⟨Hold.ext k0 hx1w2,Hold.ext k1 hx1w2,Hold.ext k2 hx1w2,hx1.trans hx1w2,fun x h=>by cases h⟩
    have HSZ:=Lib.hid hsz
    clear hw2 hsz
    refine wpIn_rangeFunc_ownH rfl (by omega) (gf:=180) (lb:=#[.pointer (some ⟨wr.heap.size,0,none⟩)]) rfl trivial (enters_of Tryz.func180 (by kernel_rfl) rfl)
     (events_stops 3 (by omega) wr.heap.size T w w2 HT.out (hx1.trans hx1w2) hbn) belowK_t (belowK_b (by have:=HSZ.out;omega)) (Below.refl _ _) (fun _=>rfl)
     (FauI T w) (fun c pre W=>c=.ret∧FauX T w pre W) (FauI.own T w w2 (by have:=HSZ.out;omega)) (fun c=>OwnFrom.and (ownFrom_pure _ (fun _=>c=.ret)) (FauX.own T w w2 (by have:=HSZ.out;omega))) hI0
     (fun x a' W=>∃ bx,FauA T w x bx W∧a'={ tmps:=#[T.val,.pointer (some ⟨w.heap.size,0,none⟩),.pointer (some ⟨w.heap.size+1,0,none⟩),.pointer (some ⟨w.heap.size+1+1,0,none⟩),u4,u5,.pointer (some ⟨bx,0,none⟩),.pointer (some ⟨bx+1,0,none⟩),undef,undef,undef,undef,undef,undef,.pointer (some ⟨w.heap.size,0,none⟩),.slice T.a T.n T.cap,.int .i64 T.n,.bool true,.bool false,undef,.pointer (some ⟨w.heap.size,0,none⟩),.slice T.a T.n T.cap,.int .i64 T.n,.int .i64 k,.bool false,u25,u26,u27,u28,u29,u30,u31,u32,u33,u34,.agg #[.slice T.a T.n T.cap],.func (.func 180) #[] #[.pointer (some ⟨wr.heap.size,0,none⟩)],.agg #[.int .i64 x.1.1,.int .i64 (x.1.2+1)],T.ev x.1.1 x.1.2,undef,undef,undef,undef,undef,undef,undef,undef,undef,undef,undef,undef,undef,undef,undef,undef,undef,undef,undef,undef,undef,undef,undef,undef,undef,undef,undef],defers:=[] }) (fun x a'=>by
      intro s W W' row ⟨bx,⟨h1,h2,h3⟩,e⟩ hg hr
      exact ⟨bx,⟨Hold.own _ _ (fun _=>_) s W W' row h1 hg hr,Hold.own _ _ (fun _=>_) s W W' row h2 hg hr,h3⟩,e⟩) ?assign ?body ?done ?stop
    case assign=>
     rintro l pre x W K hI hK
     gi_wp2
     have hx:Ext W ((W.alloc (.cells #[.int .i64 x.1.1,.int .i64 (x.1.2+1)] 70)).alloc (.cells (T.evc x.1.1 x.1.2) 75)):=(Ext.alloc _ _).alloc' _
     exact hK _ _ (hx.keepsFrom _) (Below.mono hx hI.bl.size) (hI.ext hx) ⟨W.heap.size,FauA.new hI,rfl⟩
    case body=>
     rintro l pre x a' W hl ⟨r,hr⟩ hI ⟨bx,hA,rfl⟩ hlt
     obtain ⟨⟨kk,i⟩,hkk,hi⟩:=x
     have HI:=Lib.hid hI
     obtain ⟨h0,h1,h2,bl,ok⟩:=hI
     obtain ⟨x0,d0,f0,_⟩:=h0.box
     obtain ⟨x1,d1,f1',_⟩:=h1.box
     obtain ⟨x2,d2,f2',_⟩:=h2.box
     obtain ⟨xx,dx,fx,_⟩:=hA.hx.box
     obtain ⟨xy,dy,fy,_⟩:=hA.hy.box
     have hWW:Ext W W:=Ext.refl _
     dsimp only at d0 d1 d2 dx dy
     clear l0 l1 l2 k0 k1 k2 hbn h0 h1 h2 ok hA c0 c1 c2 f1 f2 hI0
     by_cases hok:T.toTr.EvOk kk i
     ·have hE:Calls Tryz.prog 132 #[T.val,.agg #[.int .i64 kk,.int .i64 (i+1)],T.ev kk i] W fun e w'=>e=.returned (.int .i64 0)∧Ext W w':=(eventFault_any W T (HT.out.ext bl) kk i hkk hi).mono fun e w' ⟨c,he,hc,hx⟩=>⟨by rw [he,hc.2 hok],hx⟩
      gi_wp2_with (refine ⟨trivial,?_⟩;gi_at_call 132;refine (CallsIn.mono (CallsIn.inRound l (callsIn_wide.2 hE)) ?_);rintro e w5 ⟨rfl,hx5⟩)
      have hIx:=HI.out.ext hx5
      exact ⟨hx5.keepsFrom _,Below.mono hx5 bl.size,⟨hIx.h0,hIx.h1,hIx.h2,hIx.bl,fun z hz=>by
       rcases List.mem_append.1 hz with hz | hz
       ·exact HI.out.ok z hz
       ·simp at hz;subst hz;exact hok⟩⟩
     ·have hE:Calls Tryz.prog 132 #[T.val,.agg #[.int .i64 kk,.int .i64 (i+1)],T.ev kk i] W fun e w'=>∃ c:Int,e=.returned (.int .i64 c)∧(c != 0)=true∧Ext W w':=(eventFault_any W T (HT.out.ext bl) kk i hkk hi).mono fun e w' ⟨c,he,hc,hx⟩=>⟨c,he,by simpa using (fun h=>hok (hc.1 h)),hx⟩
      gi_wp2_with (refine ⟨trivial,?_⟩;gi_at_call 132;refine (CallsIn.mono (CallsIn.inRound l (callsIn_wide.2 hE)) ?_);rintro e w5 ⟨c,rfl,hc,hx5⟩)
      have hIx:=HI.out.ext hx5
      obtain ⟨g1,g2,g3,g4,-⟩:=fau_set hIx.h1 hIx.h2 hIx.bl kk (i+1) c _ rfl
      exact ⟨(hx5.keepsFrom _).trans (g4 _),rfl,⟨kk,i+1,c,by simpa using hc,g1,g2⟩,g3,⟨(kk,i),hkk,hi⟩,hok⟩
    case done=>
     rintro D xs W hD rfl hI hK
     obtain ⟨h0,h1,h2,bl,ok⟩:=hI
     have hD':w.heap.size+3≤D:=by have:=HSZ.out;omega
     have hE:∀ k i,k<T.n→i<T.en k→T.toTr.EvOk k i:=fun k i hk hi=>by
      have hm:=evs_mem (T:=T.toTr) (x:=(k,i)) ⟨hk,hi⟩
      obtain ⟨y,hy,e⟩:=List.mem_map.1 hm
      have:=ok y hy
      rw [e] at this;exact this
     have hcnt:T.toTr.evs.length≤1000000:=by
      have:=Tr.evs_len T.toTr (fun k hk=>(HOK2.out k hk).2.2.2.2) T.n (Nat.le_refl _)
      unfold Tr.evs;omega
     have HVm:=Lib.hid (messageFault_any W T (HT.out.ext bl) hE)
     have HE:=Lib.hid hE
     have HC:=Lib.hid hcnt
     have HOK3:=Lib.hid ok
     obtain ⟨x0,d0,f0,_⟩:=h0.box
     obtain ⟨x1,d1,f1',_⟩:=h1.box
     obtain ⟨x2,d2,f2',_⟩:=h2.box
     have hWW:Ext W W:=Ext.refl _
     have hDlt:D<W.heap.size:=(Array.getElem?_eq_some_iff.1 hK).1
     clear l0 l1 l2 k0 k1 k2 hbn c0 c1 c2 f1 f2 hI0 ok hE hcnt
     by_cases hm:T.toTr.OkList T.toTr.evs
     ·have hM : Calls Tryz.prog 133 #[T.val] W fun e w' => ∃ b, e = .returned (.tuple #[.pointer (some ⟨b, 0, none⟩), .agg #[.int .i64 0, .int .i64 0], .int .i64 0]) ∧ (Ltr.of T.toTr T.toTr.evs).At w' b ∧ Ext W w' :=
        HVm.out.mono fun e w' ⟨hx,h⟩=>by
         rcases h with ⟨b,he,hl,_⟩ | ⟨p,q,c,_,_,hn⟩
         ·exact ⟨b,he,hl,hx⟩
         ·exact absurd hm hn
      clear HVm
      by_cases hcy:∃ x:T.toTr.Id,Path (T.toTr.succ (Ltr.of T.toTr T.toTr.evs)) x.1 x.1
      ·gi_wp2_with (refine ⟨trivial,?_⟩;gi_at_call 133;refine (CallsIn.mono (callsIn_wide.2 hM) ?_);rintro e w5 ⟨b,rfl,hl5,hx5⟩;have hx55:=Ext.refl w5)
       have HVC:=Lib.hid (show ¬T.toTr.Valid from fun h=>h.acy hcy)
       have hC:∀ W',Ext w5 W'→Calls Tryz.prog 134 #[T.val,.pointer (some ⟨b,0,none⟩)] W' fun e w'=>∃ p q:Int,e=.returned (.tuple #[.agg #[.int .i64 p,.int .i64 q],.bool true])∧Ext W' w':=fun W' hx'=>
        (cyclic_any W' T (HT.out.ext ((bl.trans (Below.mono hx5 bl.size)).trans (Below.mono hx' (Nat.le_trans bl.size hx5.le)))) HE.out _ b (hl5.ext hx') (Ltr.of_ok _ _) HC.out).mono fun e w' ⟨hx,p,q,bb,he,hb⟩=>⟨p,q,by rw [he,hb.2 hcy],hx⟩
       have HCC:=Lib.hid hC
       clear hC hM
       gi_wp2_with (refine ⟨trivial,?_⟩;gi_at_call 134;refine (CallsIn.mono (callsIn_wide.2 (HCC.out _ (Ext.alloc _ _))) ?_);rintro e w6 ⟨p,q,rfl,hx6⟩;have hx66:=Ext.refl w6;have hx56:Ext W w6:=hx5.trans ((Ext.alloc _ _).trans hx6))
       have HF:=Lib.hid (fun o=>fau_end (T:=T) h1 h2 bl hx56 p q 10 D hD' hK ⟨fun h=>absurd h (by decide),fun h=>absurd h HVC.out⟩ _ _ rfl (Ext.alloc _ o))
       refine ⟨by simp,.inl ⟨_,_,rfl,run_takeDeferred (ds:=[]) (HF.out _).1,?_⟩⟩
       exact ⟨_,fau_results _ _ _ _ _ _ _ rfl rfl (HF.out _).2.1 (HF.out _).2.2.1 (HF.out _).2.2.2.1,(HF.out _).2.2.2.2⟩
      ·have HVC:=Lib.hid (show T.toTr.Valid from ⟨hn8.1,hn8.2,HOK2.out,HE.out,hm,hcy⟩)
       gi_wp2_with (refine ⟨trivial,?_⟩;gi_at_call 133;refine (CallsIn.mono (callsIn_wide.2 hM) ?_);rintro e w5 ⟨b,rfl,hl5,hx5⟩;have hx55:=Ext.refl w5)
       have hC:∀ W',Ext w5 W'→Calls Tryz.prog 134 #[T.val,.pointer (some ⟨b,0,none⟩)] W' fun e w'=>∃ p q:Int,e=.returned (.tuple #[.agg #[.int .i64 p,.int .i64 q],.bool false])∧Ext W' w':=fun W' hx'=>
        (cyclic_any W' T (HT.out.ext ((bl.trans (Below.mono hx5 bl.size)).trans (Below.mono hx' (Nat.le_trans bl.size hx5.le)))) HE.out _ b (hl5.ext hx') (Ltr.of_ok _ _) HC.out).mono fun e w' ⟨hx,p,q,bb,he,hb⟩=>⟨p,q,by rw [he,Bool.eq_false_iff.2 (fun h=>hcy (hb.1 h))],hx⟩
       have HCC:=Lib.hid hC
       clear hC hM
       gi_wp2_with (refine ⟨trivial,?_⟩;gi_at_call 134;refine (CallsIn.mono (callsIn_wide.2 (HCC.out _ (Ext.alloc _ _))) ?_);rintro e w6 ⟨p,q,rfl,hx6⟩;have hx66:=Ext.refl w6;have hx56:Ext W w6:=hx5.trans ((Ext.alloc _ _).trans hx6))
       have HF:=Lib.hid (fun o=>fau_end (T:=T) h1 h2 bl hx56 0 0 0 D hD' hK ⟨fun _=>HVC.out,fun _=>rfl⟩ _ _ rfl (Ext.alloc _ o))
       refine ⟨by simp,.inl ⟨_,_,rfl,run_takeDeferred (ds:=[]) (HF.out _).1,?_⟩⟩
       exact ⟨_,fau_results _ _ _ _ _ _ _ rfl rfl (HF.out _).2.1 (HF.out _).2.2.1 (HF.out _).2.2.2.1,(HF.out _).2.2.2.2⟩
     ·have hM : Calls Tryz.prog 133 #[T.val] W fun e w' => ∃ p q c : Int, e = .returned (.tuple #[.pointer none, .agg #[.int .i64 p, .int .i64 q], .int .i64 c]) ∧ (c != 0) = true ∧ Ext W w' :=
        HVm.out.mono fun e w' ⟨hx,h⟩=>by
         rcases h with ⟨b,_,_,hn⟩ | ⟨p,q,c,hc,he,_⟩
         ·exact absurd hn hm
         ·exact ⟨p,q,c,he,by simpa using hc,hx⟩
      clear HVm
      gi_wp2_with (refine ⟨trivial,?_⟩;gi_at_call 133;refine (CallsIn.mono (callsIn_wide.2 hM) ?_);rintro e w5 ⟨p,q,c,rfl,hc,hx5⟩;have hx55:=Ext.refl w5)
      have HF:=Lib.hid (fun o=>fau_end (T:=T) h1 h2 bl hx5 p q c D hD' hK ⟨fun h=>absurd h (by simpa using hc),fun h=>absurd h.msg hm⟩ _ _ rfl (Ext.alloc _ o))
      refine ⟨by simp,.inl ⟨_,_,rfl,run_takeDeferred (ds:=[]) (HF.out _).1,?_⟩⟩
      exact ⟨_,fau_results _ _ _ _ _ _ _ rfl rfl (HF.out _).2.1 (HF.out _).2.2.1 (HF.out _).2.2.2.1,(HF.out _).2.2.2.2⟩
    case stop=>
     rintro D c pre W hD hpre hX hK
     obtain ⟨rfl,⟨p,q,cc,hcc,h1,h2⟩,bl,⟨⟨xk,xi⟩,hxk,hxi⟩,bad⟩:=hX
     have hD':w.heap.size+3≤D:=by have:=HSZ.out;omega
     have g2:=h1.putObj D (.deferred none) (by omega)
     have g3:=h2.putObj D (.deferred none) (by omega)
     have hbl:Ext w (W.putObj D (.deferred none)):=bl.trans (belowK_b (w:=w) (Nat.le_refl _) W D (.deferred (some [])) _ (by omega) hK rfl rfl)
     clear l0 l1 l2 k0 k1 k2 h1 h2 hpre c0 c1 c2 f1 f2 hI0 hbn
     gi_wp2
     refine ⟨by simp,.inl ⟨_,_,rfl,run_takeDeferred (ds:=[]) hK,?_⟩⟩
     exact ⟨_,fau_results _ _ _ _ _ _ _ rfl rfl (g2.cell0 0) (g2.cell0 1) (g3.cell0 0),hbl,p,q,cc,rfl,⟨fun h=>absurd h hcc,fun h=>absurd (h.ev xk xi hxk hxi) bad⟩⟩
set_option maxHeartbeats 1000000 in
theorem valid_any (w : World) (T : TM) (hT : T.At w) :
    Calls Tryz.prog 34 #[T.val] w (BoolPost T.toTr.Valid w):=by
 go_enter Tryz.func34,Tryz.ntmps34
 go_upto_region 1 with fail
 refine boxed1 (w:=w) (G:=fun x=>Code.wp _ _ _ _ x) ?_
 intro w1 hx1 hs1 ⟨l0,c0,_,_⟩
 have hx11:Ext w1 w1:=Ext.refl _
 have hF:=fault_any w1 T (hT.ext hx1)
 clear hs1 hT
 go_wp2_with (go_at_call 83;refine hF.mono ?_;rintro e w2 ⟨hx2,p,q,c,rfl,hc⟩;have hx22:=Ext.refl w2)
 go_ret
 exact ⟨_,rfl,by rw [←hc];simp,(hx1.trans hx2).alloc' _⟩
end Go.Proofs.YtlfdfkbmollaaaaGreatDoor

namespace Go.Proofs.YtlfdfkbmollaaaaGreatDoor
open Go.RowKit Go.Shelf
attribute [local go_sem] Oper.semAt_some
def Tr.Hit (T:Tr) (kind m:Int) (x:T.Id):Prop:=T.kind x.1.1 x.1.2=kind∧T.msg x.1.1 x.1.2=m
def Tr.FindIs (T:Tr) (kind m p q:Int) (b:Bool):Prop:=
 (∃ x:T.Id,T.Hit kind m x∧p=x.1.1∧q=x.1.2+1∧b=true)∨((∀ x:T.Id,¬T.Hit kind m x)∧p=0∧q=0∧b=false)
def FindPost (T:TM) (kind m:Int) (w:World) (e:Ending) (w':World):Prop:=Ext w w'∧∃ (p q:Int) (b:Bool),e=.returned (.tuple #[.agg #[.int .i64 p,.int .i64 q],.bool b])∧T.toTr.FindIs kind m p q b
structure FinI (T:TM) (kind m:Int) (w:World) (pre:List T.toTr.Id) (W:World):Prop where
 h1:Hold W (w.heap.size+1) #[.int .i64 kind]
 h2:Hold W (w.heap.size+1+1) #[.int .i64 m]
 h3:Hold W (w.heap.size+1+1+1) #[.int .i64 0,.int .i64 0]
 h4:Hold W (w.heap.size+1+1+1+1) #[.bool false]
 bl:Below w.heap.size w W
 ok:∀ x,x∈pre→¬T.toTr.Hit kind m x
structure FinX (T:TM) (kind m:Int) (w:World) (pre:List T.toTr.Id) (W:World):Prop where
 res:∃ x:T.toTr.Id,T.toTr.Hit kind m x∧Hold W (w.heap.size+1+1+1) #[.int .i64 x.1.1,.int .i64 (x.1.2+1)]∧Hold W (w.heap.size+1+1+1+1) #[.bool true]
 bl:Below w.heap.size w W
theorem FinI.own (T:TM) (kind m:Int) (w w0:World) (h:w.heap.size≤w0.heap.size):OwnFrom w0.heap.size (FinI T kind m w):=by
 intro s W W' row hi hg hr
 exact ⟨Hold.own _ _ (fun _=>_) s W W' row hi.h1 hg hr,Hold.own _ _ (fun _=>_) s W W' row hi.h2 hg hr,Hold.own _ _ (fun _=>_) s W W' row hi.h3 hg hr,Hold.own _ _ (fun _=>_) s W W' row hi.h4 hg hr,ownFrom_below (Nat.le_refl _) h s W W' row hi.bl hg hr,hi.ok⟩
theorem FinX.own (T:TM) (kind m:Int) (w w0:World) (h:w.heap.size≤w0.heap.size):OwnFrom w0.heap.size (FinX T kind m w):=by
 intro s W W' row ⟨⟨x,hx,a,b⟩,hb⟩ hg hr
 exact ⟨⟨x,hx,Hold.own _ _ (fun _=>_) s W W' row a hg hr,Hold.own _ _ (fun _=>_) s W W' row b hg hr⟩,ownFrom_below (Nat.le_refl _) h s W W' row hb hg hr⟩
theorem FinI.ext {T:TM} {kind m:Int} {w:World} {pre:List T.toTr.Id} {W W':World} (h:FinI T kind m w pre W) (x:Ext W W'):FinI T kind m w pre W':=
 ⟨h.h1.ext x,h.h2.ext x,h.h3.ext x,h.h4.ext x,h.bl.trans (Below.mono x h.bl.size),h.ok⟩
structure FinA (T:TM) (w:World) (x:T.toTr.Id) (bx:Nat) (W:World):Prop where
 hx:Hold W bx #[.int .i64 x.1.1,.int .i64 (x.1.2+1)]
 hy:Hold W (bx+1) (T.evc x.1.1 x.1.2)
 lt:w.heap.size+1+1+1+1<bx
theorem FinA.new {T : TM} {kind m : Int} {w : World} {pre : List T.toTr.Id} {W : World} (h : FinI T kind m w pre W) {x : T.toTr.Id} {t u : TypeId} :
    FinA T w x W.heap.size ((W.alloc (.cells #[.int .i64 x.1.1,.int .i64 (x.1.2+1)] t)).alloc (.cells (T.evc x.1.1 x.1.2) u)):=by
 refine ⟨Hold.ext (W:=W.alloc (.cells #[.int .i64 x.1.1,.int .i64 (x.1.2+1)] t)) (Hold.new _ _ _) (Ext.alloc _ _),⟨u,?_⟩,h.h4.lt⟩
 show ((W.heap.push _).push _)[W.heap.size+1]?=_
 rw [Array.getElem?_push,if_pos (by simp)]
theorem fin_results (tmps : Array Value) (W : World) (b2 b3 : Nat) (x y z : Value) (t2 : tmps[6]? = some (.pointer (some ⟨b2, 0, none⟩))) (t3 : tmps[7]? = some (.pointer (some ⟨b3, 0, none⟩)))
    (c2:W.cell? ⟨b2,0,none⟩=some x) (c2':W.cell? ⟨b2,1,none⟩=some y) (c3:W.cell? ⟨b3,0,none⟩=some z) :
    (results Tryz.f251 tmps).run Tryz.prog W=.ok (.tuple #[.agg #[x,y],z]) W:=by
 simp [results,Tryz.results251,go_sem,t2,t3,c2,c2',c3]
theorem fin_set {w W : World} (h1 : Hold W (w.heap.size + 1 + 1 + 1) #[.int .i64 0, .int .i64 0]) (h2 : Hold W (w.heap.size + 1 + 1 + 1 + 1) #[.bool false]) (bl : Below w.heap.size w W) (p q : Int) (c : Bool) :
    ∀ W9,W9=((W.setCell ⟨w.heap.size+1+1+1,0,none⟩ (.int .i64 p)).setCell ⟨w.heap.size+1+1+1,1,none⟩ (.int .i64 q)).setCell ⟨w.heap.size+1+1+1+1,0,none⟩ (.bool c)→
    Hold W9 (w.heap.size+1+1+1) #[.int .i64 p,.int .i64 q]∧Hold W9 (w.heap.size+1+1+1+1) #[.bool c]∧Below w.heap.size w W9∧(∀ B,KeepsFrom B W W9)∧(∀ D,w.heap.size+5≤D→W9.heap[D]?=W.heap[D]?):=by
 rintro W9 rfl
 refine ⟨?_,?_,?_,fun B=>((keeps_set _ _ _ _).trans (keeps_set _ _ _ _)).trans (keeps_set _ _ _ _),fun D hD=>?_⟩
 ·have a2:=(h1.set 0 (.int .i64 p)).set 1 (.int .i64 q)
  simp only [List.setIfInBounds_toArray,List.set_cons_zero,List.set_cons_succ] at a2
  exact a2.other _ _ (by dsimp only;omega)
 ·have a1:=(h2.other ⟨w.heap.size+1+1+1,0,none⟩ (.int .i64 p) (by dsimp only;omega)).other ⟨w.heap.size+1+1+1,1,none⟩ (.int .i64 q) (by dsimp only;omega)
  have a2:=a1.set 0 (.bool c)
  simp only [List.setIfInBounds_toArray,List.set_cons_zero] at a2
  exact a2
 ·exact ((bl.setCell (by dsimp only;omega) _).setCell (by dsimp only;omega) _).setCell (by dsimp only;omega) _
 ·rw [Below.heap_setCell _ _ _ _ (by dsimp only;omega),Below.heap_setCell _ _ _ _ (by dsimp only;omega),Below.heap_setCell _ _ _ _ (by dsimp only;omega)]
set_option maxHeartbeats 8000000 in
theorem find_any (w : World) (T : TM) (hT : T.At w) (hV : T.toTr.Valid) (kind m : Int) :
    Calls Tryz.prog 251 #[T.val,.int .i64 kind,.int .i64 m] w (FindPost T kind m w):=by
 refine (callsIn_wide (n:=4)).1 ?_
 have HT:=Lib.hid hT
 have HV:=Lib.hid hV
 clear hT hV
 refine callsIn_of_wp_marks Tryz.func251 rfl trivial ?_ rfl
 simp only [Tryz.ntmps251,List.size_toArray,List.length_cons,List.length_nil,Nat.reduceAdd,Nat.reduceSub,Array.replicate_succ,Array.replicate_zero,List.push_toArray,List.append_toArray,List.nil_append,List.cons_append]
 gi_upto_region 1 with fail
 refine boxed5 (w:=w) (G:=fun x=>Code.wpIn _ _ _ _ _ _ x) ?_
 intro w1 hx1 hs1 ⟨l0,c0,_,k0⟩ ⟨l1,c1,_,k1⟩ ⟨l2,c2,_,k2⟩ ⟨l3,c3,_,k3⟩ ⟨l4,c4,_,k4⟩
 have hx11:Ext w1 w1:=Ext.refl _
 have HS:=Lib.hid hs1
 clear hs1
 have hVa:Calls Tryz.prog 34 #[T.val] w1 fun e w'=>e=.returned (.bool true)∧Ext w1 w':=(valid_any w1 T (HT.out.ext hx1)).mono fun e w' ⟨b,he,hb,hx⟩=>⟨by rw [he,hb.2 HV.out],hx⟩
 have hev:=fun W=>events_any T W
 have HEV:=Lib.hid hev
 clear hev
 gi_wp2_with (first | (refine ⟨trivial,?_⟩;gi_at_call 34;refine (CallsIn.mono (callsIn_wide.2 hVa) ?_);rintro e wv ⟨rfl,hxv⟩;clear hVa) | (refine ⟨trivial,?_⟩;gi_at_call 131;refine (CallsIn.mono (callsIn_wide.2 (HEV.out wv)) ?_);rintro e w' ⟨rfl,rfl⟩))
 clear hx11 c0 c1 c2 c3 c4
 obtain ⟨w2,hw2⟩:∃ w2,w2=wv.alloc (.cells #[.slice T.a T.n T.cap] 24):=⟨_,rfl⟩
 rw [←hw2]
 have hx12:Ext w1 w2:=by rw [hw2];exact hxv.alloc' _
 have hbn:w2.cell? ⟨wv.heap.size,0,none⟩=some (.slice T.a T.n T.cap):=by rw [hw2];simp
 have hsz:w.heap.size+5≤w2.heap.size:=by rw [hw2];simp;have:=HS.out;have:=hxv.le;omega
 clear hw2 HS
 have HSZ:=Lib.hid hsz
 clear hsz
 refine wpIn_rangeFunc_ownH rfl (by omega) (gf:=180) (lb:=#[.pointer (some ⟨wv.heap.size,0,none⟩)]) rfl trivial (enters_of Tryz.func180 (by kernel_rfl) rfl)
  (events_stops 3 (by omega) wv.heap.size T w w2 HT.out (hx1.trans hx12) hbn) belowK_t (belowK_b (by have:=HSZ.out;omega)) (Below.refl _ _) (fun _=>rfl)
  (FinI T kind m w) (fun c pre W=>c=.ret∧FinX T kind m w pre W) (FinI.own T kind m w w2 (by have:=HSZ.out;omega)) (fun c=>OwnFrom.and (ownFrom_pure _ (fun _=>c=.ret)) (FinX.own T kind m w w2 (by have:=HSZ.out;omega)))
  ⟨Hold.ext k1 hx12,Hold.ext k2 hx12,Hold.ext k3 hx12,Hold.ext k4 hx12,hx1.trans hx12,fun x h=>by cases h⟩
  (fun x a' W=>∃ bx,FinA T w x bx W∧a'={ tmps:=#[T.val,.int .i64 kind,.int .i64 m,.pointer (some ⟨w.heap.size,0,none⟩),.pointer (some ⟨w.heap.size+1,0,none⟩),.pointer (some ⟨w.heap.size+1+1,0,none⟩),.pointer (some ⟨w.heap.size+1+1+1,0,none⟩),.pointer (some ⟨w.heap.size+1+1+1+1,0,none⟩),.pointer (some ⟨bx,0,none⟩),.pointer (some ⟨bx+1,0,none⟩),.agg #[.slice T.a T.n T.cap],.bool true,.bool false,undef,.agg #[.slice T.a T.n T.cap],.func (.func 180) #[] #[.pointer (some ⟨wv.heap.size,0,none⟩)],.agg #[.int .i64 x.1.1,.int .i64 (x.1.2+1)],T.ev x.1.1 x.1.2,undef,undef,undef,undef,undef,undef,undef,undef,undef,undef,undef,undef],defers:=[] }) (fun x a'=>by
   intro s W W' row ⟨bx,⟨h1,h2,h3⟩,e⟩ hg hr
   exact ⟨bx,⟨Hold.own _ _ (fun _=>_) s W W' row h1 hg hr,Hold.own _ _ (fun _=>_) s W W' row h2 hg hr,h3⟩,e⟩) ?assign ?body ?done ?stop
 case assign=>
  rintro l pre x W K hI hK
  gi_wp2
  have hx:Ext W ((W.alloc (.cells #[.int .i64 x.1.1,.int .i64 (x.1.2+1)] 70)).alloc (.cells (T.evc x.1.1 x.1.2) 75)):=(Ext.alloc _ _).alloc' _
  exact hK _ _ (hx.keepsFrom _) (Below.mono hx hI.bl.size) (hI.ext hx) ⟨W.heap.size,FinA.new hI,rfl⟩
 case body=>
  rintro l pre x a' W hl ⟨r,hr⟩ hI ⟨bx,hA,rfl⟩ hlt
  obtain ⟨⟨k,i⟩,hk,hi⟩:=x
  have HI:=Lib.hid hI
  obtain ⟨h1,h2,h3,h4,bl,ok⟩:=hI
  obtain ⟨x1,d1,f1,_⟩:=h1.box
  obtain ⟨x2,d2,f2,_⟩:=h2.box
  obtain ⟨x3,d3,f3,_⟩:=h3.box
  obtain ⟨x4,d4,f4,_⟩:=h4.box
  obtain ⟨xx,dx,fx,_⟩:=hA.hx.box
  obtain ⟨xy,dy,fy,_⟩:=hA.hy.box
  have hWW:Ext W W:=Ext.refl _
  dsimp only at d1 d2 d3 d4 dx dy
  have HR:=Lib.hid (fin_set h3 h4 bl k (i+1) true _ rfl)
  clear l0 l1 l2 l3 l4 k0 k1 k2 k3 k4 hbn h1 h2 h3 h4 ok hA
  by_cases e1:T.kind k i=kind
  ·by_cases e2:T.msg k i=m
   ·have HH:=Lib.hid (show T.toTr.Hit kind m ⟨(k,i),hk,hi⟩ from ⟨e1,e2⟩)
    gi_wp2
    exact ⟨HR.out.2.2.2.1 _,rfl,⟨⟨(k,i),hk,hi⟩,HH.out,HR.out.1,HR.out.2.1⟩,HR.out.2.2.1⟩
   ·have HH:=Lib.hid (show ¬T.toTr.Hit kind m ⟨(k,i),hk,hi⟩ from fun h=>e2 h.2)
    have e2b:(T.msg k i == m)=false:=by simpa using e2
    gi_wp2
    exact ⟨KeepsFrom.refl _ _,Below.refl _ _,⟨HI.out.h1,HI.out.h2,HI.out.h3,HI.out.h4,HI.out.bl,fun z hz=>by
     rcases List.mem_append.1 hz with hz | hz
     ·exact HI.out.ok z hz
     ·simp at hz;subst hz;exact HH.out⟩⟩
  ·have HH:=Lib.hid (show ¬T.toTr.Hit kind m ⟨(k,i),hk,hi⟩ from fun h=>e1 h.1)
   have e1b:(T.kind k i == kind)=false:=by simpa using e1
   gi_wp2
   exact ⟨KeepsFrom.refl _ _,Below.refl _ _,⟨HI.out.h1,HI.out.h2,HI.out.h3,HI.out.h4,HI.out.bl,fun z hz=>by
    rcases List.mem_append.1 hz with hz | hz
    ·exact HI.out.ok z hz
    ·simp at hz;subst hz;exact HH.out⟩⟩
 case done=>
  rintro D xs W hD rfl hI hK
  obtain ⟨h1,h2,h3,h4,bl,ok⟩:=hI
  obtain ⟨_,d3,f3,_⟩:=h3.box
  obtain ⟨_,d4,f4,_⟩:=h4.box
  have hWW:Ext W W:=Ext.refl _
  have hD':w.heap.size+5≤D:=by have:=HSZ.out;omega
  have HR:=Lib.hid (fin_set h3 h4 bl 0 0 false _ rfl)
  clear l0 l1 l2 l3 l4 k0 k1 k2 k3 k4
  gi_wp2
  have hK9:=(HR.out.2.2.2.2 D hD').trans hK
  refine ⟨by simp,.inl ⟨_,_,rfl,run_takeDeferred (ds:=[]) hK9,?_⟩⟩
  have g2:=HR.out.1.putObj D (.deferred none) (by omega)
  have g3:=HR.out.2.1.putObj D (.deferred none) (by omega)
  exact ⟨_,fin_results _ _ _ _ _ _ _ rfl rfl (g2.cell0 0) (g2.cell0 1) (g3.cell0 0),HR.out.2.2.1.trans (belowK_b (w:=w) (Nat.le_refl _) _ D (.deferred (some [])) _ (by omega) hK9 rfl rfl),0,0,false,rfl,.inr ⟨fun x=>by
   have hm:=evs_mem (T:=T.toTr) (x:=x.1) x.2
   obtain ⟨y,hy,e⟩:=List.mem_map.1 hm
   rw [show x=y from Subtype.ext e.symm];exact ok y hy,rfl,rfl,rfl⟩⟩
 case stop=>
  rintro D c pre W hD hpre hX hK
  obtain ⟨rfl,⟨x,hx,h2,h3⟩,bl⟩:=hX
  have hD':w.heap.size+5≤D:=by have:=HSZ.out;omega
  have g2:=h2.putObj D (.deferred none) (by omega)
  have g3:=h3.putObj D (.deferred none) (by omega)
  have hbl:Ext w (W.putObj D (.deferred none)):=bl.trans (belowK_b (w:=w) (Nat.le_refl _) W D (.deferred (some [])) _ (by omega) hK rfl rfl)
  clear l0 l1 l2 l3 l4 k0 k1 k2 k3 k4 h2 h3 hpre
  gi_wp2
  refine ⟨by simp,.inl ⟨_,_,rfl,run_takeDeferred (ds:=[]) hK,?_⟩⟩
  exact ⟨_,fin_results _ _ _ _ _ _ _ rfl rfl (g2.cell0 0) (g2.cell0 1) (g3.cell0 0),hbl,_,_,true,rfl,.inl ⟨x,hx,rfl,rfl,rfl⟩⟩
end Go.Proofs.YtlfdfkbmollaaaaGreatDoor

namespace Go.Proofs.YtlfdfkbmollaaaaGreatDoor
open Go.RowKit Go.Shelf
set_option maxHeartbeats 1000000 in
theorem sender_any (w : World) (T : TM) (hT : T.At w) (hV : T.toTr.Valid) (m : Int) :
    Calls Tryz.prog 204 #[T.val,.int .i64 m] w (FindPost T 2 m w):=by
 go_enter Tryz.func204,Tryz.ntmps204
 go_upto_region 1 with fail
 refine boxed2 (w:=w) (G:=fun x=>Code.wp _ _ _ _ x) ?_
 intro w1 hx1 hs1 ⟨l0,c0,_,_⟩ ⟨l1,c1,f1,k1⟩
 have hx11:Ext w1 w1:=Ext.refl _
 have hF:=find_any w1 T (hT.ext hx1) hV 2 m
 have HS:=Lib.hid hs1
 clear hs1 hT hV
 go_wp2_with (go_at_call 251;refine hF.mono ?_;rintro e w2 ⟨hx2,p,q,b,rfl,hc⟩;have hx22:=Ext.refl w2)
 have HC:=Lib.hid hc
 have h2:=((Hold.ext k1 hx2).set 0 (.int .i64 p)).set 1 (.int .i64 q)
 simp only [List.setIfInBounds_toArray,List.set_cons_zero,List.set_cons_succ] at h2
 have g0:=h2.cell0 0
 have g1:=h2.cell0 1
 refine bodyPost_ret (v:=.tuple #[.agg #[.int .i64 p,.int .i64 q],.bool b]) ?_ rfl ⟨?_,p,q,b,rfl,HC.out⟩
 ·simp at g0 g1
  simp [results,Tryz.results204,go_sem,g0,g1]
 ·exact ((hx1.trans hx2).setCell (by dsimp only;omega) _).setCell (by dsimp only;omega) _
theorem Ltr.of_fi {T:Tr} (hf:∀ x:T.Id,FormedP T x.1.1 (T.kind x.1.1 x.1.2) (T.peer x.1.1 x.1.2) (T.msg x.1.1 x.1.2)):∀ (l:List T.Id) (L:Ltr) (m:Nat),0<L.fi m∨(∃ x,x∈l∧T.kind x.1.1 x.1.2=2∧T.msg x.1.1 x.1.2=m)→0<(l.foldl (Ltr.step T) L).fi m
 | [],L,m,h => by
  rcases h with h | ⟨x,hx,_⟩
  ·exact h
  ·cases hx
 | x :: l,L,m,h => by
  refine Ltr.of_fi hf l _ m ?_
  by_cases hx:T.kind x.1.1 x.1.2=2
  ·by_cases hm:(T.msg x.1.1 x.1.2).toNat=m
   ·left;unfold Ltr.step;rw [if_pos hx];simp only [upd,hm,if_true];omega
   ·rcases h with h | ⟨y,hy,h2,h3⟩
    ·left;unfold Ltr.step;rw [if_pos hx];simp only [upd,if_neg (Ne.symm hm)];exact h
    ·rcases List.mem_cons.1 hy with e | hy
     ·subst e;exact absurd (by rw [h3];rfl) hm
     ·exact .inr ⟨y,hy,h2,h3⟩
  ·rcases h with h | ⟨y,hy,h2,h3⟩
   ·left;unfold Ltr.step;rw [if_neg hx]
    by_cases h3:T.kind x.1.1 x.1.2=3
    ·rw [if_pos h3];exact h
    ·rw [if_neg h3];exact h
   ·rcases List.mem_cons.1 hy with e | hy
    ·subst e;exact absurd h2 hx
    ·exact .inr ⟨y,hy,h2,h3⟩
theorem Ltr.of_ti {T:Tr} (hf:∀ x:T.Id,FormedP T x.1.1 (T.kind x.1.1 x.1.2) (T.peer x.1.1 x.1.2) (T.msg x.1.1 x.1.2)):∀ (l:List T.Id) (L:Ltr) (m:Nat),0<L.ti m∨(∃ x,x∈l∧T.kind x.1.1 x.1.2=3∧T.msg x.1.1 x.1.2=m)→0<(l.foldl (Ltr.step T) L).ti m
 | [],L,m,h => by
  rcases h with h | ⟨x,hx,_⟩
  ·exact h
  ·cases hx
 | x :: l,L,m,h => by
  refine Ltr.of_ti hf l _ m ?_
  by_cases hx:T.kind x.1.1 x.1.2=3
  ·have h2':¬T.kind x.1.1 x.1.2=2:=by rw [hx];decide
   by_cases hm:(T.msg x.1.1 x.1.2).toNat=m
   ·left;unfold Ltr.step;rw [if_neg h2',if_pos hx];simp only [upd,hm,if_true];omega
   ·rcases h with h | ⟨y,hy,h2,h3⟩
    ·left;unfold Ltr.step;rw [if_neg h2',if_pos hx];simp only [upd,if_neg (Ne.symm hm)];exact h
    ·rcases List.mem_cons.1 hy with e | hy
     ·subst e;exact absurd (by rw [h3];rfl) hm
     ·exact .inr ⟨y,hy,h2,h3⟩
  ·rcases h with h | ⟨y,hy,h2,h3⟩
   ·left;unfold Ltr.step
    by_cases h2:T.kind x.1.1 x.1.2=2
    ·rw [if_pos h2];exact h
    ·rw [if_neg h2,if_neg hx];exact h
   ·rcases List.mem_cons.1 hy with e | hy
    ·subst e;exact absurd h2 hx
    ·exact .inr ⟨y,hy,h2,h3⟩
theorem evs_all {T:Tr} (x:T.Id):x∈T.evs:=by
 have hm:=evs_mem (T:=T) (x:=x.1) x.2
 obtain ⟨y,hy,e⟩:=List.mem_map.1 hm
 rw [show x=y from Subtype.ext e.symm];exact hy
theorem Tr.Valid.formed {T:Tr} (h:T.Valid) (x:T.Id):FormedP T x.1.1 (T.kind x.1.1 x.1.2) (T.peer x.1.1 x.1.2) (T.msg x.1.1 x.1.2):=(h.ev x.1.1 x.1.2 x.2.1 x.2.2).1
structure Mx where
 n:Nat
 rn:Nat→Nat
 val:Nat→Nat→Int
structure MM extends Mx where
 a:Option Addr
 b:Nat
 off:Nat
 cap:Nat
 ra:Nat→Option Addr
 rb:Nat→Nat
 ro:Nat→Nat
 rc:Nat→Nat
abbrev MM.v (M:MM):Value:=.slice M.a M.n M.cap
structure MM.At (M:MM) (w:World):Prop where
 hn:M.n≤140737488355328
 pa:0<M.n→M.a=some ⟨M.b,M.off,none⟩
 pb:0<M.n→∀ w',Ext w w'→M.b<w'.heap.size
 p0:∀ w',Ext w w'→∀ k,k<M.n→w'.cell? ⟨M.b,M.off+k,none⟩=some (.slice (M.ra k) (M.rn k) (M.rc k))
 hr:∀ k,k<M.n→M.rn k≤140737488355328
 ra:∀ k,k<M.n→0<M.rn k→M.ra k=some ⟨M.rb k,M.ro k,none⟩
 rb:∀ k,k<M.n→0<M.rn k→∀ w',Ext w w'→M.rb k<w'.heap.size
 r0:∀ w',Ext w w'→∀ k i,k<M.n→i<M.rn k→w'.cell? ⟨M.rb k,M.ro k+i,none⟩=some (.int .i64 (M.val k i))
theorem MM.At.ext {M:MM} {w w':World} (h:M.At w) (x:Ext w w'):M.At w':=
 ⟨h.hn,h.pa,fun h0 w' y=>h.pb h0 w' (x.trans y),fun w' y=>h.p0 w' (x.trans y),h.hr,h.ra,fun k h1 h2 w' y=>h.rb k h1 h2 w' (x.trans y),fun w' y=>h.r0 w' (x.trans y)⟩
theorem two_places {α:Type} {l:List α} {x y:α} (hx:x∈l) (hy:y∈l) (hne:x≠y):(∃ pre,pre++[y] <+: l∧x∈pre)∨(∃ pre,pre++[x] <+: l∧y∈pre):=by
 obtain ⟨a,b,rfl⟩:=List.append_of_mem hx
 rcases List.mem_append.1 hy with hy | hy
 ·exact .inr ⟨a,⟨b,by simp⟩,hy⟩
 ·rcases List.mem_cons.1 hy with e | hy
  ·exact absurd e.symm hne
  ·obtain ⟨c,d,rfl⟩:=List.append_of_mem hy
   exact .inl ⟨a++x :: c,⟨d,by simp⟩,by simp⟩
theorem Tr.Valid.uniq2 {T:Tr} (h:T.Valid) {x y:T.Id} (hx:T.kind x.1.1 x.1.2=2) (hy:T.kind y.1.1 y.1.2=2) (hm:T.msg x.1.1 x.1.2=T.msg y.1.1 y.1.2):x=y:=by
 have key:∀ (x y:T.Id) pre,pre++[y] <+: T.evs→x∈pre→T.kind x.1.1 x.1.2=2→T.kind y.1.1 y.1.2=2→T.msg x.1.1 x.1.2=T.msg y.1.1 y.1.2→False:=by
  intro x y pre hp hx h1 h2 h3
  have hn:=(h.msg pre y hp).1 h2
  have:=Ltr.of_fi h.formed pre Ltr.zero (T.msg y.1.1 y.1.2).toNat (.inr ⟨x,hx,h1,by rw [h3];rcases h.formed y with h | h <;> omega⟩)
  unfold Ltr.of at hn;omega
 refine Classical.byContradiction fun hne=>?_
 rcases two_places (evs_all x) (evs_all y) hne with ⟨pre,hp,hi⟩ | ⟨pre,hp,hi⟩
 ·exact key x y pre hp hi hx hy hm
 ·exact key y x pre hp hi hy hx hm.symm
theorem Tr.Valid.uniq3 {T:Tr} (h:T.Valid) {x y:T.Id} (hx:T.kind x.1.1 x.1.2=3) (hy:T.kind y.1.1 y.1.2=3) (hm:T.msg x.1.1 x.1.2=T.msg y.1.1 y.1.2):x=y:=by
 have key:∀ (x y:T.Id) pre,pre++[y] <+: T.evs→x∈pre→T.kind x.1.1 x.1.2=3→T.kind y.1.1 y.1.2=3→T.msg x.1.1 x.1.2=T.msg y.1.1 y.1.2→False:=by
  intro x y pre hp hx h1 h2 h3
  have hn:=((h.msg pre y hp).2 h2).1
  have:=Ltr.of_ti h.formed pre Ltr.zero (T.msg y.1.1 y.1.2).toNat (.inr ⟨x,hx,h1,by rw [h3];rcases h.formed y with h | h <;> omega⟩)
  unfold Ltr.of at hn;omega
 refine Classical.byContradiction fun hne=>?_
 rcases two_places (evs_all x) (evs_all y) hne with ⟨pre,hp,hi⟩ | ⟨pre,hp,hi⟩
 ·exact key x y pre hp hi hx hy hm
 ·exact key y x pre hp hi hy hx hm.symm
def Tr.Snd (T:Tr) (x y:T.Id):Prop:=T.kind x.1.1 x.1.2=3∧T.kind y.1.1 y.1.2=2∧T.msg y.1.1 y.1.2=T.msg x.1.1 x.1.2
theorem Tr.Valid.snd_ex {T:Tr} (h:T.Valid) (x:T.Id) (hx:T.kind x.1.1 x.1.2=3):∃ y,T.Snd x y:=by
 obtain ⟨a,b,e⟩:=List.append_of_mem (evs_all x)
 have hs:=((h.msg a x ⟨b,by rw [e];simp⟩).2 hx).2
 obtain ⟨i,hi,hp⟩:=anyB_iff.1 hs
 simp only [Bool.and_eq_true,decide_eq_true_eq] at hp
 have hpeer:(T.peer x.1.1 x.1.2).toNat<T.n:=by rcases h.formed x with h | h <;> omega
 exact ⟨⟨((T.peer x.1.1 x.1.2).toNat,i),hpeer,hi⟩,hx,hp.1.1,hp.1.2⟩
open Classical in
noncomputable def Tr.snd (T:Tr) (x:T.Id):T.Id:=if h:∃ y,T.Snd x y then Classical.choose h else x
theorem Tr.Valid.snd {T:Tr} (h:T.Valid) (x:T.Id) (hx:T.kind x.1.1 x.1.2=3):T.Snd x (T.snd x):=by
 have he:=h.snd_ex x hx
 unfold Tr.snd
 rw [dif_pos he];exact Classical.choose_spec he
theorem Tr.Valid.snd_eq {T:Tr} (h:T.Valid) {x y:T.Id} (hy:T.Snd x y):T.snd x=y:=by
 have hs:=h.snd x hy.1
 exact h.uniq2 hs.2.1 hy.2.1 (hs.2.2.trans hy.2.2.symm)
theorem Tr.Valid.found {T:Tr} (h:T.Valid) {x:T.Id} (hx:T.kind x.1.1 x.1.2=3) {p q:Int} {b:Bool} (hf:T.FindIs 2 (T.msg x.1.1 x.1.2) p q b):p=(T.snd x).1.1∧q=(T.snd x).1.2+1∧b=true:=by
 rcases hf with ⟨y,hy,hp,hq,hb⟩ | ⟨hn,_⟩
 ·have:=h.snd_eq (x:=x) (y:=y) ⟨hx,hy.1,hy.2⟩
  rw [this];exact ⟨hp,hq,hb⟩
 ·have hs:=h.snd x hx
  exact absurd ⟨hs.2.1,hs.2.2⟩ (hn _)
end Go.Proofs.YtlfdfkbmollaaaaGreatDoor

namespace Go.Proofs.YtlfdfkbmollaaaaGreatDoor
open Go.RowKit Go.Shelf
def intCells (l:List Int):List Value:=l.map (Value.int .i64)
theorem intCells_one (l:List Int):∀ u∈intCells l,u.oneCell'=true:=by
 intro u hu
 obtain ⟨x,_,rfl⟩:=List.mem_map.1 hu;rfl
open Classical in
noncomputable def Tr.sndN (T:Tr) (x:NN):NN:=if h:x.1<T.n∧x.2<T.en x.1 then (T.snd ⟨x,h⟩).1 else (0,0)
theorem Tr.sndN_eq (T:Tr) (x:T.Id):T.sndN x.1=(T.snd x).1:=by
 unfold Tr.sndN;rw [dif_pos x.2]
theorem infoInt:(Tryz.prog.info? 3).map (fun i=>(i.zero,i.size,i.bytes))=some (some (.int .i64 0),1,8):=by kernel_rfl
end Go.Proofs.YtlfdfkbmollaaaaGreatDoor

namespace Go.Proofs.YtlfdfkbmollaaaaGreatDoor
open Go.RowKit Go.Shelf
theorem Ltr.of_from {T:Tr}:∀ (l:List T.Id) (L:Ltr) (m:Nat),((l.foldl (Ltr.step T) L).ti m=L.ti m∧(l.foldl (Ltr.step T) L).tp m=L.tp m)∨∃ x,x∈l∧T.kind x.1.1 x.1.2=3∧(T.msg x.1.1 x.1.2).toNat=m∧(l.foldl (Ltr.step T) L).tp m=x.1.1∧(l.foldl (Ltr.step T) L).ti m=x.1.2+1
 | [],_,_ => .inl ⟨rfl,rfl⟩
 | a :: l,L,m => by
  rw [List.foldl_cons]
  rcases Ltr.of_from l (Ltr.step T L a) m with ⟨h1,h2⟩ | ⟨x,hx,h⟩
  ·rw [h1,h2]
   by_cases k2:T.kind a.1.1 a.1.2=2
   ·left;unfold Ltr.step;rw [if_pos k2];exact ⟨rfl,rfl⟩
   ·by_cases k3:T.kind a.1.1 a.1.2=3
    ·by_cases hm:(T.msg a.1.1 a.1.2).toNat=m
     ·right;refine ⟨a,List.mem_cons_self,k3,hm,?_⟩
      unfold Ltr.step;rw [if_neg k2,if_pos k3];simp [upd,hm]
     ·left;unfold Ltr.step;rw [if_neg k2,if_pos k3];simp [upd,Ne.symm hm]
    ·left;unfold Ltr.step;rw [if_neg k2,if_neg k3];exact ⟨rfl,rfl⟩
  ·exact .inr ⟨x,List.mem_cons_of_mem _ hx,h⟩
theorem Tr.Valid.letter {T:Tr} (h:T.Valid) (y:T.Id) (hy:T.kind y.1.1 y.1.2=3):(Ltr.of T T.evs).tp (T.msg y.1.1 y.1.2).toNat=y.1.1∧(Ltr.of T T.evs).ti (T.msg y.1.1 y.1.2).toNat=y.1.2+1:=by
 have hf:=h.formed y
 have hp:=Ltr.of_ti h.formed T.evs Ltr.zero (T.msg y.1.1 y.1.2).toNat (.inr ⟨y,evs_all y,hy,by rcases hf with h | h <;> omega⟩)
 rcases Ltr.of_from T.evs Ltr.zero (T.msg y.1.1 y.1.2).toNat with ⟨h1,_⟩ | ⟨x,_,k3,hm,h1,h2⟩
 ·rw [h1] at hp;exact absurd hp (by simp [Ltr.zero])
 ·have hfx:=h.formed x
  have:x=y:=h.uniq3 k3 hy (by rcases hf with h | h <;> rcases hfx with h' | h' <;> omega)
  subst this;exact ⟨h1,h2⟩
def Tr.Dir (T:Tr) (x y:NN):Prop:=(y.1=x.1∧y.2=x.2+1)∨(T.kind y.1 y.2=3∧x=T.sndN y)
theorem Tr.sndN_V {T:Tr} {y:NN} (hy:T.V y):T.V (T.sndN y):=by
 have:=T.sndN_eq ⟨y,hy⟩
 simp only at this
 rw [this];exact (T.snd ⟨y,hy⟩).2
theorem Tr.Valid.sndN {T:Tr} (h:T.Valid) {y:NN} (hy:T.V y) (k3:T.kind y.1 y.2=3):T.kind (T.sndN y).1 (T.sndN y).2=2∧T.msg (T.sndN y).1 (T.sndN y).2=T.msg y.1 y.2:=by
 have:=T.sndN_eq ⟨y,hy⟩
 simp only at this
 rw [this];exact (h.snd ⟨y,hy⟩ k3).2
theorem Tr.Dir.V {T:Tr} {x y:NN} (hy:T.V y) (h:T.Dir x y):T.V x:=by
 rcases h with ⟨h1,h2⟩ | ⟨_,h⟩
 ·obtain ⟨a,b⟩:=hy;rw [h1] at a b;exact ⟨a,by omega⟩
 ·rw [h];exact Tr.sndN_V hy
theorem Tr.Valid.dir_succ {T:Tr} (h:T.Valid) {x y:NN} (hy:T.V y) (hd:T.Dir x y):y∈T.succ (Ltr.of T T.evs) x:=by
 unfold Tr.succ
 rcases hd with ⟨h1,h2⟩ | ⟨k3,he⟩
 ·have hlt:x.2+1<T.en x.1:=by rw [←h1,←h2];exact hy.2
  rw [if_pos hlt]
  exact List.mem_append_left _ (List.mem_singleton.2 (Prod.ext h1 h2))
 ·subst he
  obtain ⟨k2,hm⟩:=h.sndN hy k3
  have hl:=h.letter ⟨y,hy⟩ k3
  simp only at hl
  rw [hm]
  refine List.mem_append_right _ ?_
  rw [if_pos ⟨k2,by rw [hl.2];omega⟩,hl.1,hl.2]
  refine List.mem_singleton.2 (Prod.ext ?_ ?_)
  ·simp
  ·simp
theorem Tr.Valid.ind {T:Tr} (h:T.Valid) {P:NN→Prop} (step:∀ y,T.V y→(∀ x,T.V x→T.Dir x y→P x)→P y):∀ y,T.V y→P y:=by
 refine fun y0 hy0=>Classical.byContradiction fun hn0=>?_
 have key:∀ n,∃ (z:NN) (S:List NN),(z :: S).Nodup∧S.length=n∧¬P z∧(∀ u,u∈z :: S→T.V u)∧∀ u,u∈S→Path (T.succ (Ltr.of T T.evs)) z u:=by
  intro n
  induction n with
  | zero => exact ⟨y0,[],by simp,rfl,hn0,by simpa using hy0,by simp⟩
  | succ n ih =>
   obtain ⟨z,S,hnd,hl,hz,hv,hp⟩:=ih
   have hvz:=hv z List.mem_cons_self
   obtain ⟨x,hx,hd,hnx⟩:∃ x,T.V x∧T.Dir x z∧¬P x:=Classical.byContradiction fun hc=>hz (step z hvz fun x hx hd=>Classical.byContradiction fun hnx=>hc ⟨x,hx,hd,hnx⟩)
   have hs:=h.dir_succ hvz hd
   have hpx:∀ u,u∈z :: S→Path (T.succ (Ltr.of T T.evs)) x u:=by
    intro u hu
    rcases List.mem_cons.1 hu with e | hu
    ·subst e;exact Path.one hs
    ·obtain ⟨k,hk⟩:=hp u hu;exact ⟨k+1,z,hs,hk⟩
   refine ⟨x,z :: S,?_,by simp [hl],hnx,?_,hpx⟩
   ·refine List.nodup_cons.2 ⟨fun hm=>h.acy ⟨⟨x,hx⟩,hpx x hm⟩,hnd⟩
   ·intro u hu
    rcases List.mem_cons.1 hu with e | hu
    ·subst e;exact hx
    ·exact hv u hu
 obtain ⟨z,S,hnd,hl,_,hv,_⟩:=key T.evs.length
 have:=evs_count hnd hv
 simp at this;omega
def tot (f:Nat→Nat):Nat→Nat | 0=>0 | n+1=>tot f n+f n
theorem tot_le {f g:Nat→Nat}:∀ {n:Nat},(∀ k,k<n→f k≤g k)→tot f n≤tot g n
 | 0,_ => Nat.le_refl _
 | n+1,h => Nat.add_le_add (tot_le fun k hk => h k (by omega)) (h n (by omega))
theorem tot_congr {f g:Nat→Nat}:∀ {n:Nat},(∀ k,k<n→f k=g k)→tot f n=tot g n
 | 0,_ => rfl
 | n+1,h => by unfold tot;rw [tot_congr fun k hk => h k (by omega),h n (by omega)]
theorem tot_small {f:Nat→Nat} {c:Nat}:∀ {n:Nat},(∀ k,k<n→f k≤c)→tot f n≤n*c
 | 0,_ => by simp [tot]
 | n+1,h => by unfold tot;rw [Nat.succ_mul];exact Nat.add_le_add (tot_small fun k hk => h k (by omega)) (h n (by omega))
end Go.Proofs.YtlfdfkbmollaaaaGreatDoor

namespace Go.Proofs.YtlfdfkbmollaaaaGreatDoor
open Go.RowKit
theorem Tr.evsTo_mem {T:Tr} {k i:Nat} {x:T.Id} (h:x∈T.evsTo k i):x.1.1<k∨(x.1.1=k∧x.1.2<i):=by
 unfold Tr.evsTo at h
 rcases List.mem_append.1 h with h | h
 ·obtain ⟨p,hp,h⟩:=List.mem_flatMap.1 h
  obtain ⟨j,hj,h⟩:=List.mem_filterMap.1 h
  unfold Tr.mk? at h
  split at h
  ·cases h;exact .inl (List.mem_range.1 hp)
  ·cases h
 ·obtain ⟨j,hj,h⟩:=List.mem_filterMap.1 h
  unfold Tr.mk? at h
  split at h
  ·cases h;exact .inr ⟨rfl,List.mem_range.1 hj⟩
  ·cases h
theorem Tr.evsTo_tot (T:Tr):∀ (k i:Nat),k<T.n→i≤T.en k→(T.evsTo k i).length=tot T.en k+i
 | 0,0,_,_ => rfl
 | k+1,0,hk,_ => by rw [←Tr.evsTo_next,Tr.evsTo_tot T k (T.en k) (by omega) (Nat.le_refl _)];rfl
 | k,i+1,hk,hi => by rw [Tr.evsTo_succ _ _ _ hk hi,List.length_append,Tr.evsTo_tot T k i hk (by omega)];rfl
theorem Tr.evs_tot (T:Tr):T.evs.length=tot T.en T.n:=by
 unfold Tr.evs
 cases h:T.n with
 | zero => rfl
 | succ n => rw [←Tr.evsTo_next,Tr.evsTo_tot T n (T.en n) (by omega) (Nat.le_refl _)];rfl
end Go.Proofs.YtlfdfkbmollaaaaGreatDoor

namespace Go.Proofs.YtlfdfkbmollaaaaGreatDoor
open Go.RowKit Go.Shelf
structure EvRow (w:World) (g n:Nat) (f:Nat→Int × Int):Prop where
 c0:∀ k,k<n→w.cell? ⟨g,k*2,none⟩=some (.int .i64 (f k).1)
 c1:∀ k,k<n→w.cell? ⟨g,k*2+1,none⟩=some (.int .i64 (f k).2)
 fr:∀ o,w.frozen? ⟨g,o,none⟩=false
theorem EvOwn.row {w:World} {base:Nat} {v:Value} {l:List (Int × Int)} (h:EvOwn w base v l) (h0:0<l.length):∃ g cap,v=.slice (some ⟨g,0,none⟩) l.length cap∧base≤g∧EvRow w g l.length (fun k=>l.getD k (0,0)):=by
 obtain ⟨h1,⟨hv,hn⟩ | ⟨g,cap,cur,hv,hg,hh,hc,hm,hs,ht⟩⟩:=h
 ·omega
 ·have hb:=Box.of hh
  have hget:∀ j,j<l.length*2→cur[j]?=(evCells l)[j]?:=by
   intro j hj
   rw [←ht,List.getElem?_take_of_lt hj];simp
  refine ⟨g,cap,hv,hg,fun k hk=>?_,fun k hk=>?_,fun o=>hb.frozen w (Ext.refl _) o⟩
  ·rw [hb.cell w (Ext.refl _),hget _ (by omega),evCells_get0 l k hk,List.getD_eq_getElem?_getD,List.getElem?_eq_getElem hk];rfl
  ·rw [hb.cell w (Ext.refl _),hget _ (by omega),evCells_get1 l k hk,List.getD_eq_getElem?_getD,List.getElem?_eq_getElem hk];rfl
theorem evOwn_one {w:World} {base g:Nat} {x y:Int} (h:w.heap[g]?=some (.cells #[.int .i64 x,.int .i64 y] 70 (0,0))) (hb:base≤g):EvOwn w base (.slice (some ⟨g,0,none⟩) 1 1) [(x,y)]:=
 ⟨rfl,.inr ⟨g,1,_,rfl,hb,h,Nat.le_refl _,by unfold maxLen;omega,rfl,rfl⟩⟩
end Go.Proofs.YtlfdfkbmollaaaaGreatDoor
