/- Contracts and laws in plain Lean for RApp: group T14. -/
import Derived.Test.YtlfdfkbmollaaaaGreatDoorT13
import Derived.Test.YtlfdfkbmollaaaaGreatDoorT06
import Derived.Test.YtlfdfkbmollaaaaGreatDoorT01
import Derived.Test.YtlfdfkbmollaaaaGreatDoorT07
set_option maxRecDepth 100000
namespace Go.Proofs.YtlfdfkbmollaaaaGreatDoor
open Go.RowKit Go.Shelf
def Tr.firstOf (T:Tr) (kd m:Int):Option T.Id:=T.evs.find? fun x=>decide (T.kind x.1.1 x.1.2=kd∧T.msg x.1.1 x.1.2=m)
def Tr.firstR (T:Tr) (kd m:Int):Int × Int:=match T.firstOf kd m with | some x=>evI x.1 | none=>(0,0)
theorem Tr.firstOf_some {T:Tr} {kd m:Int} {k i:Nat} (hk:k<T.n) (hi:i<T.en k) (h1:T.kind k i=kd) (h2:T.msg k i=m) (hno:∀ x∈T.evsTo k i,¬(T.kind x.1.1 x.1.2=kd∧T.msg x.1.1 x.1.2=m)):T.firstOf kd m=some ⟨(k,i),hk,hi⟩:=by
 obtain ⟨r,hr⟩:=T.evsTo_prefix k (i+1) hk hi
 rw [T.evsTo_succ k i hk hi] at hr
 unfold Tr.firstOf
 rw [←hr,List.find?_append,List.find?_append]
 have:(T.evsTo k i).find? (fun x=>decide (T.kind x.1.1 x.1.2=kd∧T.msg x.1.1 x.1.2=m))=none:=by
  rw [List.find?_eq_none];intro x hx;simpa using hno x hx
 rw [this]
 simp [h1,h2]
theorem Tr.firstOf_none {T:Tr} {kd m:Int} (hno:∀ x∈T.evs,¬(T.kind x.1.1 x.1.2=kd∧T.msg x.1.1 x.1.2=m)):T.firstOf kd m=none:=by
 unfold Tr.firstOf;rw [List.find?_eq_none];intro x hx;simpa using hno x hx
theorem rfind_results (tmps : Array Value) (W : World) (b : Nat) (x y : Value) (t6 : tmps[6]? = some (.pointer (some ⟨b, 0, none⟩))) (c : W.cell? ⟨b, 0, none⟩ = some x) (c' : W.cell? ⟨b, 1, none⟩ = some y) :
    (results Tryz.f144 tmps).run Tryz.prog W=.ok (.agg #[x,y]) W:=by
 simp [results,go_sem,t6,c,c']
set_option maxHeartbeats 1000000 in
theorem rfind_any (w : World) (T : TM) (hT : T.At w) (hn0 : 0 < T.n) (kd m : Int) :
    Calls Tryz.prog 144 #[T.val,.int .i64 kd,.int .i64 m] w fun e w'=>e=.returned (evV (T.toTr.firstR kd m))∧Ext w w':=by
 have pa:=hT.P.pa hn0
 have pb:=hT.P.pb hn0
 have p2:=hT.P.p2
 have hn:=hT.P.hn
 have e0:=hT.E.e0
 have e1:=hT.E.e1
 have e2:=hT.E.e2
 have e3:=hT.E.e3
 have e4:=hT.E.e4
 have HT:=Lib.hid hT
 clear hT
 go_enter Tryz.func144,Tryz.ntmps144
 go_upto_region 1 with fail
 refine boxed2 (w:=w) (G:=fun x=>Code.wp _ _ _ _ x) ?_
 intro w1 hx1 hs1 ⟨l0,c0,_,_⟩ ⟨l1,c1,f1,k1⟩
 have hx11:Ext w1 w1:=Ext.refl _
 have HK1:=Lib.hid k1
 clear hs1 k1
 go_wp2_with fail
 go_loopg [7] T.n (fun gg v wr=>∃ k:Nat,k≤T.n∧gg=T.n - k∧v=.int .i64 k∧Ext w1 wr∧∀ x∈T.toTr.evsTo k 0,¬(T.kind x.1.1 x.1.2=kd∧T.msg x.1.1 x.1.2=m))
 case atStart=>exact ⟨0,by omega,rfl,rfl,hx11,fun x hx=>by cases hx⟩
 case round=>
  obtain ⟨k,hk,rfl,rfl,hxr,hno⟩:=hrel
  have HNO:=Lib.hid hno
  clear hno
  have hxw:=hx1.trans hxr
  by_cases hlt:k<T.n
  ·have hlt':(k:Int)<(T.n:Int):=by omega
   have hen:=HT.out.E.he k hlt
   go_wp2_with fail
   go_loopg [8] (T.en k) (fun gg v wr=>∃ i:Nat,i≤T.en k∧gg=T.en k - i∧v=.int .i64 i∧Ext w1 wr∧∀ x∈T.toTr.evsTo k i,¬(T.kind x.1.1 x.1.2=kd∧T.msg x.1.1 x.1.2=m))
   case atStart=>exact ⟨0,by omega,rfl,rfl,hxr,HNO.out⟩
   case round=>
    obtain ⟨i,hi,rfl,rfl,hxr,hno⟩:=hrel
    have HNI:=Lib.hid hno
    clear hno
    have hxw:=hx1.trans hxr
    by_cases hli:i<T.en k
    ·have hli':(i:Int)<(T.en k:Int):=by omega
     have ea:=HT.out.E.ea k hlt (by omega)
     have eb:=HT.out.E.eb k hlt (by omega)
     have HSTEP:=Lib.hid (show ¬(T.kind k i=kd∧T.msg k i=m)→∀ x∈T.toTr.evsTo k (i+1),¬(T.kind x.1.1 x.1.2=kd∧T.msg x.1.1 x.1.2=m) from fun h x hx=>by
      rw [T.toTr.evsTo_succ k i hlt hli] at hx
      rcases List.mem_append.1 hx with hx | hx
      ·exact HNI.out x hx
      ·simp at hx;subst hx;exact h)
     go_upto_region 8 with fail
     refine boxed1 (w:=wr) (G:=fun x=>Code.wp _ _ _ _ x) ?_
     intro w4 hx4 hs4 ⟨l4,c4,_,_⟩
     have hx44:Ext w4 w4:=Ext.refl _
     have hx14:=hxr.trans hx4
     clear hs4 e0 e1 e2 e3 e4
     by_cases hkd:T.kind k i=kd
     ·by_cases hm:T.msg k i=m
      ·have HF:=Lib.hid (T.toTr.firstOf_some hlt hli hkd hm HNI.out)
       have hh:=Hold.ext HK1.out hx14
       obtain ⟨l9,c9,f9,_⟩:=hh.box
       have G4:=Lib.hid ((hh.set 0 (.int .i64 k)).set 1 (.int .i64 (i+1)))
       clear hh l1 c1 f1
       go_wp2_with fail
       try simp only [Exit.inBlock,Exit.then]
       refine bodyPost_ret (rfind_results _ _ _ _ _ rfl (G4.out.cell0 0) (G4.out.cell0 1)) rfl ?_
       have hb:w.heap.size≤w.heap.size+1:=by omega
       exact ⟨ret_eq (by unfold Tr.firstR;rw [HF.out];rfl),Ext.setCell (Ext.setCell (hx1.trans hx14) hb _) hb _⟩
      ·have hmb:(T.msg k i == m)=false:=by simpa using hm
       go_wp2_with fail
       go_roundg (T.en k - (i+1))
       case rel=>exact ⟨i+1,by omega,rfl,by go_num,hx14,HSTEP.out fun h=>hm h.2⟩
       case measure=>omega
     ·have hkb:(T.kind k i == kd)=false:=by simpa using hkd
      go_wp2_with fail
      go_roundg (T.en k - (i+1))
      case rel=>exact ⟨i+1,by omega,rfl,by go_num,hx14,HSTEP.out fun h=>hkd h.1⟩
      case measure=>omega
    ·have hie:i=T.en k:=by omega
     subst hie
     go_wp2_with fail
     go_roundg (T.n - (k+1))
     case rel=>exact ⟨k+1,by omega,rfl,by go_num,hxr,by rw [←Tr.evsTo_next];exact HNI.out⟩
     case measure=>omega
  ·have hke:k=T.n:=by omega
   subst hke
   have HF:=Lib.hid (T.toTr.firstOf_none HNO.out)
   have hrr:Ext wr wr:=Ext.refl _
   have hh:=Hold.ext HK1.out hxr
   obtain ⟨l9,c9,f9,_⟩:=hh.box
   have G4:=Lib.hid ((hh.set 0 (.int .i64 0)).set 1 (.int .i64 0))
   clear hh l1 c1 f1
   go_wp2_with fail
   try simp only [Exit.inBlock,Exit.then]
   refine bodyPost_ret (rfind_results _ _ _ _ _ rfl (G4.out.cell0 0) (G4.out.cell0 1)) rfl ?_
   have hb:w.heap.size≤w.heap.size+1:=by omega
   exact ⟨ret_eq (by unfold Tr.firstR;rw [HF.out];rfl),Ext.setCell (Ext.setCell (hx1.trans hxr) hb _) hb _⟩
theorem at_results (tmps : Array Value) (W : World) (b : Nat) (x0 x1 x2 x3 x4 : Value) (t4 : tmps[4]? = some (.pointer (some ⟨b, 0, none⟩))) (c0 : W.cell? ⟨b, 0, none⟩ = some x0) (c1 : W.cell? ⟨b, 1, none⟩ = some x1) (c2 : W.cell? ⟨b, 2, none⟩ = some x2) (c3 : W.cell? ⟨b, 3, none⟩ = some x3) (c4 : W.cell? ⟨b, 4, none⟩ = some x4) :
    (results Tryz.f143 tmps).run Tryz.prog W=.ok (.agg #[x0,x1,x2,x3,x4]) W:=by
 simp [results,go_sem,t4,c0,c1,c2,c3,c4]
set_option maxHeartbeats 1000000 in
theorem rat_any (w : World) (T : TM) (hT : T.At w) (p i : Nat) (hp : p < T.n) (hi : i < T.en p) :
    Calls Tryz.prog 143 #[T.val,.agg #[.int .i64 p,.int .i64 (i+1)]] w fun e w'=>e=.returned (T.ev p i)∧Ext w w':=by
 have pa:=hT.P.pa (by omega)
 have pb:=hT.P.pb (by omega)
 have p2:=hT.P.p2
 have e0:=hT.E.e0
 have e1:=hT.E.e1
 have e2:=hT.E.e2
 have e3:=hT.E.e3
 have e4:=hT.E.e4
 have ea:=hT.E.ea p hp (by omega)
 have eb:=hT.E.eb p hp (by omega)
 have hn:=hT.P.hn
 have hen:=hT.E.he p hp
 have hp':(p:Int)<(T.n:Int):=by omega
 have hi':(i:Int)<(T.en p:Int):=by omega
 have hw1:IntKind.i64.wrap (i:Int)=(i:Int):=IntWalk.i64_in _ (by omega)
 clear hT
 go_enter Tryz.func143,Tryz.ntmps143
 go_upto_region 1 with fail
 refine boxed3 (w:=w) (G:=fun x=>Code.wp _ _ _ _ x) ?_
 intro w1 hx1 hs1 ⟨l0,c0,_,_⟩ ⟨l1,c1,_,_⟩ ⟨l2,c2,f2,k2⟩
 have hx11:Ext w1 w1:=Ext.refl _
 clear hs1
 refine wp_region_reads 12 (by kernel_rfl) (by kernel_rfl) ?_
 simp only [List.take_succ_cons,List.take_zero]
 repeat still_step
 refine wpStill_nil ?_
 refine wpAny_ready (rs:=[12]) (by kernel_rfl) (by simp) ?_
 refine AllReady.cons rfl (fun K hK=>?_) AllReady.nil
 go_simp
 refine hK _ _ ?_;clear hK K
 refine wpAny_done (by kernel_rfl) ?_ _
 have g4:=((((Hold.set (show Hold w1 (w.heap.size+1+1) _ from k2) 0 (.int .i64 (T.kind p i))).set 1 (.int .i64 (T.peer p i))).set 2 (.int .i64 (T.msg p i))).set 3 (.int .i64 (T.time p i))).set 4 (.slice (T.aa p i) (T.an p i) (T.ac p i))
 have G4:=Lib.hid g4.drew
 clear g4 k2 c0 c1 c2 l0 l1 l2 f2 e0 e1 e2 e3 e4 p2 pb eb
 go_wp2_with fail
 try simp only [Exit.inBlock,Exit.then]
 refine bodyPost_ret (at_results _ _ _ _ _ _ _ _ rfl (G4.out.cell0 0) (G4.out.cell0 1) (G4.out.cell0 2) (G4.out.cell0 3) (G4.out.cell0 4)) rfl ?_
 refine ⟨rfl,?_⟩
 have hb:w.heap.size≤w.heap.size+1+1:=by omega
 exact (Ext.setCell (Ext.setCell (Ext.setCell (Ext.setCell (Ext.setCell hx1 hb _) hb _) hb _) hb _) hb _).drew
def Tr.Formed (T:Tr):Prop:=∀ x:T.Id,FormedP T x.1.1 (T.kind x.1.1 x.1.2) (T.peer x.1.1 x.1.2) (T.msg x.1.1 x.1.2)
theorem Ltr.none_fi {T:Tr}:∀ (l:List T.Id) (L:Ltr) (m:Nat),(∀ x∈l,T.kind x.1.1 x.1.2=2→(T.msg x.1.1 x.1.2).toNat≠m)→(l.foldl (Ltr.step T) L).fi m=L.fi m
 | [],_,_,_ => rfl
 | x :: l,L,m,h => by
  rw [List.foldl_cons,Ltr.none_fi l _ m fun y hy=>h y (by simp [hy])]
  unfold Ltr.step
  split
  ·next hk=>show upd L.fi _ _ m=_;unfold upd;rw [if_neg (fun e=>h x (by simp) hk e.symm)]
  ·split <;> rfl
theorem Ltr.none_ti {T:Tr}:∀ (l:List T.Id) (L:Ltr) (m:Nat),(∀ x∈l,T.kind x.1.1 x.1.2=3→(T.msg x.1.1 x.1.2).toNat≠m)→(l.foldl (Ltr.step T) L).ti m=L.ti m
 | [],_,_,_ => rfl
 | x :: l,L,m,h => by
  rw [List.foldl_cons,Ltr.none_ti l _ m fun y hy=>h y (by simp [hy])]
  unfold Ltr.step
  split
  ·rfl
  ·split
   ·next hk=>show upd L.ti _ _ m=_;unfold upd;rw [if_neg (fun e=>h x (by simp) hk e.symm)]
   ·rfl
theorem Tr.Formed.nat {T:Tr} (h:T.Formed) (x:T.Id):((T.msg x.1.1 x.1.2).toNat:Int)=T.msg x.1.1 x.1.2:=by
 rcases h x with h | h <;> omega
theorem fi_iff {T:Tr} (h:T.Formed) (pre:List T.Id) (x:T.Id):(Ltr.of T pre).fi (T.msg x.1.1 x.1.2).toNat≤0↔∀ y∈pre,¬(T.kind y.1.1 y.1.2=2∧T.msg y.1.1 y.1.2=T.msg x.1.1 x.1.2):=by
 constructor
 ·intro hl y hy ⟨h1,h2⟩
  have:=Ltr.of_fi h pre Ltr.zero (T.msg x.1.1 x.1.2).toNat (.inr ⟨y,hy,h1,by rw [h2,h.nat x]⟩)
  unfold Ltr.of at hl;omega
 ·intro hn
  unfold Ltr.of
  rw [Ltr.none_fi pre Ltr.zero _ fun y hy hk e=>hn y hy ⟨hk,by rw [←h.nat y,←h.nat x,e]⟩]
  exact Int.le_refl _
theorem ti_iff {T:Tr} (h:T.Formed) (pre:List T.Id) (x:T.Id):(Ltr.of T pre).ti (T.msg x.1.1 x.1.2).toNat≤0↔∀ y∈pre,¬(T.kind y.1.1 y.1.2=3∧T.msg y.1.1 y.1.2=T.msg x.1.1 x.1.2):=by
 constructor
 ·intro hl y hy ⟨h1,h2⟩
  have:=Ltr.of_ti h pre Ltr.zero (T.msg x.1.1 x.1.2).toNat (.inr ⟨y,hy,h1,by rw [h2,h.nat x]⟩)
  unfold Ltr.of at hl;omega
 ·intro hn
  unfold Ltr.of
  rw [Ltr.none_ti pre Ltr.zero _ fun y hy hk e=>hn y hy ⟨hk,by rw [←h.nat y,←h.nat x,e]⟩]
  exact Int.le_refl _
theorem first_iff {T : Tr} {kd m : Int} {p i : Nat} (hp : p < T.n) (hi : i < T.en p) (hk : T.kind p i = kd) (hm : T.msg p i = m) :
    T.firstR kd m=evI (p,i)↔∀ y∈T.evsTo p i,¬(T.kind y.1.1 y.1.2=kd∧T.msg y.1.1 y.1.2=m):=by
 constructor
 ·intro he y hy hh
  obtain ⟨r,hr⟩:=T.evsTo_prefix p i hp (by omega)
  have hs:((T.evsTo p i).find? (fun x=>decide (T.kind x.1.1 x.1.2=kd∧T.msg x.1.1 x.1.2=m))).isSome=true:=by
   rw [List.find?_isSome];exact ⟨y,hy,by simpa using hh⟩
  obtain ⟨z,hz⟩:=Option.isSome_iff_exists.1 hs
  have hf:T.firstOf kd m=some z:=by
   unfold Tr.firstOf;rw [←hr,List.find?_append,hz];rfl
  unfold Tr.firstR at he
  rw [hf] at he
  have hzi:=evI_inj he
  have hmem:=Tr.evsTo_mem (List.mem_of_find?_eq_some hz)
  rw [hzi] at hmem
  rcases hmem with h | h
  ·exact absurd h (Nat.lt_irrefl _)
  ·exact absurd h.2 (Nat.lt_irrefl _)
 ·intro hno
  unfold Tr.firstR;rw [T.firstOf_some hp hi hk hm hno]
def Tr.PairOk (T:Tr) (p i:Nat):Prop:=T.kind p i=1∨(T.firstR (T.kind p i) (T.msg p i)=evI (p,i)∧(T.kind p i=3→T.sendsB (T.peer p i).toNat (T.msg p i) p=true))
theorem Tr.pair_iff {T:Tr} (h:T.Formed) {p i:Nat} (hp:p<T.n) (hi:i<T.en p):T.PairOk p i↔T.NoFault (T.evsTo p i) ⟨(p,i),hp,hi⟩:=by
 have hfx:=h ⟨(p,i),hp,hi⟩
 have h1:=fi_iff h (T.evsTo p i) ⟨(p,i),hp,hi⟩
 have h2:=ti_iff h (T.evsTo p i) ⟨(p,i),hp,hi⟩
 unfold Tr.PairOk Tr.NoFault
 rcases hfx with hk | hk
 ·have hk1:T.kind p i=1:=hk.1
  exact ⟨fun _=>⟨fun h=>absurd (hk1.symm.trans h) (by decide),fun h=>absurd (hk1.symm.trans h) (by decide)⟩,fun _=>.inl hk1⟩
 ·have hne:T.kind p i≠1:=by have:T.kind p i=2∨T.kind p i=3:=hk.1;omega
  rcases hk.1 with hk2 | hk3
  ·have hk2:T.kind p i=2:=hk2
   have hf:=first_iff hp hi hk2 rfl
   rw [or_iff_right hne,hk2,hf]
   exact ⟨fun ⟨a,_⟩=>⟨fun _=>h1.2 a,fun h=>absurd h (by decide)⟩,fun ⟨a,_⟩=>⟨h1.1 (a rfl),fun h=>absurd h (by decide)⟩⟩
  ·have hk3:T.kind p i=3:=hk3
   have hf:=first_iff hp hi hk3 rfl
   rw [or_iff_right hne,hk3,hf]
   exact ⟨fun ⟨a,b⟩=>⟨fun h=>absurd h (by decide),fun _=>⟨h2.2 a,b rfl⟩⟩,fun ⟨_,b⟩=>⟨h2.1 (b rfl).1,fun _=>(b rfl).2⟩⟩
set_option maxHeartbeats 2000000 in
theorem rpaired_any (w : World) (T : TM) (hT : T.At w) (hF : T.toTr.Formed) (p i : Nat) (hp : p < T.n) (hi : i < T.en p) :
    Calls Tryz.prog 93 #[T.val,.agg #[.int .i64 p,.int .i64 (i+1)]] w (ErrPost (T.toTr.PairOk p i) w):=by
 have hn:=hT.P.hn
 have pa:=hT.P.pa (by omega)
 have pb:=hT.P.pb (by omega)
 have p2:=hT.P.p2
 have hAt:=fun W (h:Ext w W)=>rat_any W T (hT.ext h) p i hp hi
 have hFd:=fun kd m W (h:Ext w W)=>rfind_any W T (hT.ext h) (by omega) kd m
 simp only [TM.val,pa] at hAt hFd
 have HAt:=Lib.hid hAt
 have HFd:=Lib.hid hFd
 have HT:=Lib.hid hT
 have HFX:=Lib.hid (hF ⟨(p,i),hp,hi⟩)
 clear hT hAt hFd hF
 go_enter Tryz.func93,Tryz.ntmps93
 go_upto_region 1 with fail
 refine boxed2 (w:=w) (G:=fun x=>Code.wp _ _ _ _ x) ?_
 intro w1 hx1 hs1 ⟨l0,c0,_,_⟩ ⟨l1,c1,_,_⟩
 have hx11:Ext w1 w1:=Ext.refl _
 clear hs1
 go_upto_region 2 with (go_at_call 143;refine (HAt.out _ hx1).mono ?_;rintro e w2 ⟨rfl,hx2⟩)
 refine boxed1 (w:=w2) (G:=fun x=>Code.wp _ _ _ _ x) ?_
 intro w3 hx3 hs3 ⟨l3,c3,_,_⟩
 have hx33:Ext w3 w3:=Ext.refl _
 have hx13:Ext w1 w3:=hx2.trans hx3
 have hxw3:Ext w w3:=hx1.trans hx13
 clear hs3
 generalize w2.heap.size=bx at l3 c3 ⊢
 by_cases hk1:T.kind p i=1
 ·go_wp2_with fail
  go_ret
  exact ErrPost.good (.inl hk1) hxw3
 ·have hkb:(T.kind p i == 1)=false:=by simpa using hk1
  have hHs:=fun W (h:Ext w W)=>HFd.out (T.kind p i) (T.msg p i) W h
  obtain ⟨⟨fp,fi⟩,hfr⟩:∃ f,f=T.toTr.firstR (T.kind p i) (T.msg p i):=⟨_,rfl⟩
  rw [←hfr] at hHs
  simp only [evV] at hHs
  have HHs:=Lib.hid hHs
  have HFR:=Lib.hid hfr
  have hg5:∀ d os,Ext w (Sort.grow (redrawn w3 d) os):=fun d os=>hxw3.trans (below_regrown w3 d os)
  have hg51:∀ d os,Ext w1 (Sort.grow (redrawn w3 d) os):=fun d os=>hx13.trans (below_regrown w3 d os)
  have hg53:∀ d os,Ext w3 (Sort.grow (redrawn w3 d) os):=fun d os=>below_regrown w3 d os
  clear hHs hfr
  by_cases he1:fp=(p:Int)
  ·subst he1
   by_cases he2:fi=(i:Int)+1
   ·subst he2
    have HEQ:=Lib.hid (show T.toTr.firstR (T.kind p i) (T.msg p i)=evI (p,i) from HFR.out.symm)
    go_upto_region 4 with fail
    refine wp_region_quiet_below (by kernel_rfl) (by kernel_rfl) ?_
    repeat (go_big_quiet_step (exact Calls.regrown_of (HHs.out _ (hg5 _ _))))
    refine wpQuiet_nil ?_
    intro _ hw'
    obtain ⟨⟨dq,osq⟩,hw''⟩:=hw'
    subst hw''
    have hx9:Ext w3 (Sort.grow (redrawn w3 dq) osq):=below_regrown w3 dq osq
    generalize Sort.grow (redrawn w3 dq) osq=w9 at hx9 ⊢
    have hx59:Ext w w9:=hxw3.trans hx9
    have hx19:Ext w1 w9:=hx13.trans hx9
    by_cases hk3:T.kind p i=3
    ·obtain ⟨q,hq⟩:∃ q:Nat,T.peer p i=(q:Int):=⟨(T.peer p i).toNat,by rcases HFX.out with h | h <;> omega⟩
     have hqn:q<T.n:=by rcases HFX.out with h | h <;> omega
     have hqn':(q:Int)<(T.n:Int):=by omega
     have hen:=HT.out.E.he q hqn
     have e0:∀ w',Ext w w'→∀ k,k<T.en q→w'.cell? ⟨T.eb q,T.eo q+k*5,none⟩=some (.int .i64 (T.kind q k)):=fun w' h k hk=>HT.out.E.e0 w' h q k hqn hk
     have e1:∀ w',Ext w w'→∀ k,k<T.en q→w'.cell? ⟨T.eb q,T.eo q+k*5+1,none⟩=some (.int .i64 (T.peer q k)):=fun w' h k hk=>HT.out.E.e1 w' h q k hqn hk
     have e2:∀ w',Ext w w'→∀ k,k<T.en q→w'.cell? ⟨T.eb q,T.eo q+k*5+2,none⟩=some (.int .i64 (T.msg q k)):=fun w' h k hk=>HT.out.E.e2 w' h q k hqn hk
     have e3:∀ w',Ext w w'→∀ k,k<T.en q→w'.cell? ⟨T.eb q,T.eo q+k*5+3,none⟩=some (.int .i64 (T.time q k)):=fun w' h k hk=>HT.out.E.e3 w' h q k hqn hk
     have e4:∀ w',Ext w w'→∀ k,k<T.en q→w'.cell? ⟨T.eb q,T.eo q+k*5+4,none⟩=some (.slice (T.aa q k) (T.an q k) (T.ac q k)):=fun w' h k hk=>HT.out.E.e4 w' h q k hqn hk
     clear HHs hg5 hg51 hg53
     go_wp2_with fail
     go_loopg [7,6] (T.en q) (fun gg v7 v6 wr=>∃ k:Nat,k≤T.en q∧gg=T.en q - k∧v7=.int .i64 k∧v6=.bool (anyB (fun j=>decide (T.kind q j=2) && decide (T.msg q j=T.msg p i) && decide (T.peer q j=(p:Int))) k)∧Ext w9 wr)
     case atStart=>exact ⟨0,by omega,rfl,rfl,rfl,Ext.refl _⟩
     case round=>
      obtain ⟨k,hk,rfl,rfl,hv6,hxr⟩:=hrel
      obtain ⟨b,hb⟩:∃ b,b=anyB (fun j=>decide (T.kind q j=2) && decide (T.msg q j=T.msg p i) && decide (T.peer q j=(p:Int))) k:=⟨_,rfl⟩
      rw [←hb] at hv6
      subst hv6
      have HB:=Lib.hid hb.symm
      clear hb
      have hxwr:=hx59.trans hxr
      have hx1r:=hx19.trans hxr
      have hx3r:=hx9.trans hxr
      by_cases hlt:k<T.en q
      ·have hlt':(k:Int)<(T.en q:Int):=by omega
       have ea:=HT.out.E.ea q hqn (by omega)
       have eb:=HT.out.E.eb q hqn (by omega)
       go_upto_region 12 with fail
       refine boxed1 (w:=wr) (G:=fun x=>Code.wp _ _ _ _ x) ?_
       intro w4 hx4 hs4 ⟨l4,c4,_,_⟩
       have hx44:Ext w4 w4:=Ext.refl _
       have hx14:=hx1r.trans hx4
       have hx34:=hx3r.trans hx4
       have hxr4:=hxr.trans hx4
       clear hs4
       cases b with
       | true =>
        go_wp2_with fail
        go_roundg (T.en q - (k+1))
        case rel=>exact ⟨k+1,by omega,rfl,by go_num,by rw [anyB,HB.out];rfl,hxr4⟩
        case measure=>omega
       | false =>
        by_cases h2:T.kind q k=2
        ·by_cases hm:T.msg q k=T.msg p i
         ·have hmb:(T.msg q k == T.msg p i)=true:=by simpa using hm
          by_cases hpe:T.peer q k=(p:Int)
          ·have hpb:(T.peer q k == (p:Int))=true:=by simpa using hpe
           go_wp2_with fail
           go_roundg (T.en q - (k+1))
           case rel=>exact ⟨k+1,by omega,rfl,by go_num,by rw [anyB,HB.out,decide_eq_true h2,decide_eq_true hm,decide_eq_true hpe];rfl,hxr4⟩
           case measure=>omega
          ·have hpb:(T.peer q k == (p:Int))=false:=by simpa using hpe
           go_wp2_with fail
           go_roundg (T.en q - (k+1))
           case rel=>exact ⟨k+1,by omega,rfl,by go_num,by rw [anyB,HB.out,decide_eq_false hpe,Bool.and_false];rfl,hxr4⟩
           case measure=>omega
         ·have hmb:(T.msg q k == T.msg p i)=false:=by simpa using hm
          go_wp2_with fail
          go_roundg (T.en q - (k+1))
          case rel=>exact ⟨k+1,by omega,rfl,by go_num,by rw [anyB,HB.out,decide_eq_false hm,Bool.and_false,Bool.false_and];rfl,hxr4⟩
          case measure=>omega
        ·have h2b:(T.kind q k == 2)=false:=by simpa using h2
         go_wp2_with fail
         go_roundg (T.en q - (k+1))
         case rel=>exact ⟨k+1,by omega,rfl,by go_num,by rw [anyB,HB.out,decide_eq_false h2,Bool.false_and,Bool.false_and];rfl,hxr4⟩
         case measure=>omega
      ·have hke:k=T.en q:=by omega
       subst hke
       have HSB:=Lib.hid (show T.toTr.sendsB q (T.msg p i) p=b from HB.out)
       cases b with
       | true =>
        go_wp2_with fail
        go_ret
        exact ErrPost.good (.inr ⟨HEQ.out,fun _=>by rw [hq,Int.toNat_natCast];exact HSB.out⟩) hxwr
       | false =>
        go_wp2_with fail
        go_ret
        exact ErrPost.bad (by decide) (fun h=>by
         rcases h with h | h
         ·exact hk1 h
         ·have:=h.2 hk3;rw [hq,Int.toNat_natCast,HSB.out] at this;cases this) hxwr
    ·have hk3b:(T.kind p i == 3)=false:=by simpa using hk3
     go_wp2_with fail
     go_ret
     exact ErrPost.good (.inr ⟨HEQ.out,fun h=>absurd h hk3⟩) hx59
   ·have hb2:(fi == (i:Int)+1)=false:=by simpa using he2
    go_upto_region 4 with fail
    refine wp_region_quiet_below (by kernel_rfl) (by kernel_rfl) ?_
    repeat (go_big_quiet_step (exact Calls.regrown_of (HHs.out _ (hg5 _ _))))
    refine wpQuiet_nil ?_
    intro _ hw'
    obtain ⟨⟨dq,osq⟩,hw''⟩:=hw'
    subst hw''
    have hx9:Ext w3 (Sort.grow (redrawn w3 dq) osq):=below_regrown w3 dq osq
    generalize Sort.grow (redrawn w3 dq) osq=w9 at hx9 ⊢
    have hx59:Ext w w9:=hxw3.trans hx9
    have hx19:Ext w1 w9:=hx13.trans hx9
    go_wp2_with fail
    go_ret
    exact ErrPost.bad (by decide) (fun h=>by
     rcases h with h | h
     ·exact hk1 h
     ·have:=h.1;rw [←HFR.out] at this;simp only [evI,Prod.mk.injEq] at this;exact he2 this.2) hx59
  ·have hb1:(fp == (p:Int))=false:=by simpa using he1
   go_upto_region 4 with fail
   refine wp_region_quiet_below (by kernel_rfl) (by kernel_rfl) ?_
   repeat (go_big_quiet_step (exact Calls.regrown_of (HHs.out _ (hg5 _ _))))
   refine wpQuiet_nil ?_
   intro _ hw'
   obtain ⟨⟨dq,osq⟩,hw''⟩:=hw'
   subst hw''
   have hx9:Ext w3 (Sort.grow (redrawn w3 dq) osq):=below_regrown w3 dq osq
   generalize Sort.grow (redrawn w3 dq) osq=w9 at hx9 ⊢
   have hx59:Ext w w9:=hxw3.trans hx9
   have hx19:Ext w1 w9:=hx13.trans hx9
   go_wp2_with fail
   go_ret
   exact ErrPost.bad (by decide) (fun h=>by
    rcases h with h | h
    ·exact hk1 h
    ·have:=h.1;rw [←HFR.out] at this;simp only [evI,Prod.mk.injEq] at this;exact he1 this.1) hx59
structure Tr.Pre (T:Tr):Prop where
 n1:1≤T.n
 n8:T.n≤8
 pr:∀ k,k<T.n→T.PrOk k
 ev:∀ k i,k<T.n→i<T.en k→T.EvOk k i
 msg:T.OkList T.evs
def Tr.Acy (T:Tr):Prop:=¬ ∃ x:T.Id,Path (T.succ (Ltr.of T T.evs)) x.1 x.1
theorem Tr.valid_iff {T:Tr}:T.Valid↔T.Pre∧T.Acy:=⟨fun h=>⟨⟨h.n1,h.n8,h.pr,h.ev,h.msg⟩,h.acy⟩,fun ⟨h,k⟩=>⟨h.n1,h.n8,h.pr,h.ev,h.msg,k⟩⟩
theorem Tr.Pre.formed {T:Tr} (h:T.Pre) (x:T.Id):FormedP T x.1.1 (T.kind x.1.1 x.1.2) (T.peer x.1.1 x.1.2) (T.msg x.1.1 x.1.2):=(h.ev x.1.1 x.1.2 x.2.1 x.2.2).1
theorem Tr.Pre.uniq2 {T:Tr} (h:T.Pre) {x y:T.Id} (hx:T.kind x.1.1 x.1.2=2) (hy:T.kind y.1.1 y.1.2=2) (hm:T.msg x.1.1 x.1.2=T.msg y.1.1 y.1.2):x=y:=by
 have key:∀ (x y:T.Id) pre,pre++[y] <+: T.evs→x∈pre→T.kind x.1.1 x.1.2=2→T.kind y.1.1 y.1.2=2→T.msg x.1.1 x.1.2=T.msg y.1.1 y.1.2→False:=by
  intro x y pre hp hx h1 h2 h3
  have hn:=(h.msg pre y hp).1 h2
  have:=Ltr.of_fi h.formed pre Ltr.zero (T.msg y.1.1 y.1.2).toNat (.inr ⟨x,hx,h1,by rw [h3];rcases h.formed y with h | h <;> omega⟩)
  unfold Ltr.of at hn;omega
 refine Classical.byContradiction fun hne=>?_
 rcases two_places (evs_all x) (evs_all y) hne with ⟨pre,hp,hi⟩ | ⟨pre,hp,hi⟩
 ·exact key x y pre hp hi hx hy hm
 ·exact key y x pre hp hi hy hx hm.symm
theorem Tr.Pre.uniq3 {T:Tr} (h:T.Pre) {x y:T.Id} (hx:T.kind x.1.1 x.1.2=3) (hy:T.kind y.1.1 y.1.2=3) (hm:T.msg x.1.1 x.1.2=T.msg y.1.1 y.1.2):x=y:=by
 have key:∀ (x y:T.Id) pre,pre++[y] <+: T.evs→x∈pre→T.kind x.1.1 x.1.2=3→T.kind y.1.1 y.1.2=3→T.msg x.1.1 x.1.2=T.msg y.1.1 y.1.2→False:=by
  intro x y pre hp hx h1 h2 h3
  have hn:=((h.msg pre y hp).2 h2).1
  have:=Ltr.of_ti h.formed pre Ltr.zero (T.msg y.1.1 y.1.2).toNat (.inr ⟨x,hx,h1,by rw [h3];rcases h.formed y with h | h <;> omega⟩)
  unfold Ltr.of at hn;omega
 refine Classical.byContradiction fun hne=>?_
 rcases two_places (evs_all x) (evs_all y) hne with ⟨pre,hp,hi⟩ | ⟨pre,hp,hi⟩
 ·exact key x y pre hp hi hx hy hm
 ·exact key y x pre hp hi hy hx hm.symm
theorem Tr.Pre.snd_ex {T:Tr} (h:T.Pre) (x:T.Id) (hx:T.kind x.1.1 x.1.2=3):∃ y,T.Snd x y:=by
 obtain ⟨a,b,e⟩:=List.append_of_mem (evs_all x)
 have hs:=((h.msg a x ⟨b,by rw [e];simp⟩).2 hx).2
 obtain ⟨i,hi,hp⟩:=anyB_iff.1 hs
 simp only [Bool.and_eq_true,decide_eq_true_eq] at hp
 have hpeer:(T.peer x.1.1 x.1.2).toNat<T.n:=by rcases h.formed x with h | h <;> omega
 exact ⟨⟨((T.peer x.1.1 x.1.2).toNat,i),hpeer,hi⟩,hx,hp.1.1,hp.1.2⟩
theorem Tr.Pre.snd {T:Tr} (h:T.Pre) (x:T.Id) (hx:T.kind x.1.1 x.1.2=3):T.Snd x (T.snd x):=by
 have he:=h.snd_ex x hx
 unfold Tr.snd
 rw [dif_pos he];exact Classical.choose_spec he
theorem Tr.Pre.snd_eq {T:Tr} (h:T.Pre) {x y:T.Id} (hy:T.Snd x y):T.snd x=y:=by
 have hs:=h.snd x hy.1
 exact h.uniq2 hs.2.1 hy.2.1 (hs.2.2.trans hy.2.2.symm)
theorem Tr.Pre.letter {T:Tr} (h:T.Pre) (y:T.Id) (hy:T.kind y.1.1 y.1.2=3):(Ltr.of T T.evs).tp (T.msg y.1.1 y.1.2).toNat=y.1.1∧(Ltr.of T T.evs).ti (T.msg y.1.1 y.1.2).toNat=y.1.2+1:=by
 have hf:=h.formed y
 have hp:=Ltr.of_ti h.formed T.evs Ltr.zero (T.msg y.1.1 y.1.2).toNat (.inr ⟨y,evs_all y,hy,by rcases hf with h | h <;> omega⟩)
 rcases Ltr.of_from T.evs Ltr.zero (T.msg y.1.1 y.1.2).toNat with ⟨h1,_⟩ | ⟨x,_,k3,hm,h1,h2⟩
 ·rw [h1] at hp;exact absurd hp (by simp [Ltr.zero])
 ·have hfx:=h.formed x
  have:x=y:=h.uniq3 k3 hy (by rcases hf with h | h <;> rcases hfx with h' | h' <;> omega)
  subst this;exact ⟨h1,h2⟩
theorem Tr.Pre.sndN {T:Tr} (h:T.Pre) {y:NN} (hy:T.V y) (k3:T.kind y.1 y.2=3):T.kind (T.sndN y).1 (T.sndN y).2=2∧T.msg (T.sndN y).1 (T.sndN y).2=T.msg y.1 y.2:=by
 have:=T.sndN_eq ⟨y,hy⟩
 simp only at this
 rw [this];exact (h.snd ⟨y,hy⟩ k3).2
theorem Tr.Pre.dir_succ {T:Tr} (h:T.Pre) {x y:NN} (hy:T.V y) (hd:T.Dir x y):y∈T.succ (Ltr.of T T.evs) x:=by
 unfold Tr.succ
 rcases hd with ⟨h1,h2⟩ | ⟨k3,he⟩
 ·have hlt:x.2+1<T.en x.1:=by rw [←h1,←h2];exact hy.2
  rw [if_pos hlt]
  exact List.mem_append_left _ (List.mem_singleton.2 (Prod.ext h1 h2))
 ·subst he
  obtain ⟨k2,hm⟩:=h.sndN hy k3
  have hl:=h.letter ⟨y,hy⟩ k3
  simp only at hl
  rw [hm]
  refine List.mem_append_right _ ?_
  rw [if_pos ⟨k2,by rw [hl.2];omega⟩,hl.1,hl.2]
  refine List.mem_singleton.2 (Prod.ext ?_ ?_)
  ·simp
  ·simp
theorem Tr.Pre.succ_dir {T:Tr} (h:T.Pre) {x y:NN} (hx:T.V x) (hy:y∈T.succ (Ltr.of T T.evs) x):T.Dir x y∧T.V y:=by
 unfold Tr.succ at hy
 rcases List.mem_append.1 hy with hy | hy
 ·split at hy
  ·next hl=>simp at hy;subst hy;exact ⟨.inl ⟨rfl,rfl⟩,hx.1,hl⟩
  ·cases hy
 ·split at hy
  ·next hc=>
   simp at hy
   rcases Ltr.of_from T.evs Ltr.zero (T.msg x.1 x.2).toNat with ⟨h1,_⟩ | ⟨z,_,h2,h3,h4,h5⟩
   ·have:(Ltr.of T T.evs).ti (T.msg x.1 x.2).toNat=0:=h1
    omega
   ·have h4:(Ltr.of T T.evs).tp (T.msg x.1 x.2).toNat=z.1.1:=h4
    have h5:(Ltr.of T T.evs).ti (T.msg x.1 x.2).toNat=z.1.2+1:=h5
    have hyz:y=z.1:=by
     rw [hy,h4,h5];exact Prod.ext (by simp) (by show ((z.1.2:Int)+1).toNat - 1=z.1.2;omega)
    have hm:T.msg x.1 x.2=T.msg z.1.1 z.1.2:=by
     have f1:=h.formed ⟨x,hx⟩
     have f2:=h.formed z
     have f1:FormedP T x.1 (T.kind x.1 x.2) (T.peer x.1 x.2) (T.msg x.1 x.2):=f1
     rcases f1 with a | a <;> rcases f2 with b | b <;> omega
    have hs:T.snd z=⟨x,hx⟩:=h.snd_eq ⟨h2,hc.1,hm⟩
    rw [hyz]
    refine ⟨.inr ⟨h2,?_⟩,z.2⟩
    rw [T.sndN_eq z,hs]
  ·cases hy
theorem Tr.Pre.first_snd {T:Tr} (h:T.Pre) (x:T.Id) (hx:T.kind x.1.1 x.1.2=3):T.firstR 2 (T.msg x.1.1 x.1.2)=evI (T.snd x).1:=by
 have hs:=h.snd x hx
 have hso:(T.firstOf 2 (T.msg x.1.1 x.1.2)).isSome=true:=by
  unfold Tr.firstOf;rw [List.find?_isSome];exact ⟨T.snd x,evs_all _,by simp [hs.2.1,hs.2.2]⟩
 obtain ⟨z,hz⟩:=Option.isSome_iff_exists.1 hso
 have hp:=List.find?_some hz
 simp at hp
 have:z=T.snd x:=h.uniq2 hp.1 hs.2.1 (hp.2.trans hs.2.2.symm)
 unfold Tr.firstR;rw [hz,this]
set_option maxHeartbeats 1000000 in
theorem rdir_any (w : World) (T : TM) (hT : T.At w) (hV : T.toTr.Pre) (p i : Nat) (hp : p < T.n) (hi : i < T.en p) :
    Calls Tryz.prog 145 #[T.val,.agg #[.int .i64 p,.int .i64 (i+1)]] w (BackPost w ((T.toTr.bk (p,i)).map evI)):=by
 obtain ⟨i0,hi0,hz0,hz1,hz2⟩:=info_parts infoEv
 have pa:=hT.P.pa (by omega)
 have hen:=hT.E.he p hp
 have hE:=fun W (hx:Ext w W)=>rat_any W T (hT.ext hx) p i hp hi
 have hL:=fun (h3:T.kind p i=3) W (hx:Ext w W)=>rfind_any W T (hT.ext hx) (by omega) 2 (T.msg p i)
 have hFS:=fun (h3:T.kind p i=3)=>hV.first_snd ⟨(p,i),hp,hi⟩ h3
 simp only [TM.val,pa] at hE hL
 have HE:=Lib.hid hE
 have HL:=Lib.hid hL
 have HFS:=Lib.hid hFS
 clear hT hV hE hL hFS
 go_enter Tryz.func145,Tryz.ntmps145
 go_upto_region 1 with fail
 refine boxed2 (w:=w) (G:=fun x=>Code.wp _ _ _ _ x) ?_
 intro w1 hx1 hs1 ⟨l0,c0,_,_⟩ ⟨l1,c1,_,_⟩
 have hx11:Ext w1 w1:=Ext.refl _
 clear hs1
 by_cases h0:0<i
 ·have d0:decide ((1:Int)<(i:Int)+1)=true:=decide_eq_true (by omega)
  go_upto_region 4 with (at_builtin;refine wpList_append_own _ rfl _ _ 68 rfl w1.heap.size 70 i0 (.agg #[.int .i64 0,.int .i64 0]) 2 16 Tryz.underlying68 hi0 hz0 hz1 hz2 rfl (by decide) (.slice none 0 0) 0 [] rfl (World.ownsRow_nil _ _ _ _) ⟨w1.heap.size,0,none⟩ 1 1 [.int .i64 p,.int .i64 i] rfl rfl (by exact news_ok w1 [_,_] _) (by intro u hu;simp at hu;rcases hu with rfl | rfl <;> rfl) (by unfold maxLen;omega) (by omega) (by simp) ?_;rintro v3 w3 hown3 hg3 -)
  have hx3:Ext w1 w3:=((Below.refl _ w1).alloc (Nat.le_refl _) _).grown hg3 (by simp) (fun k e=>by cases e)
  have HO3:=Lib.hid (EvOwn.snoc (l:=[]) hown3)
  have hx13:=hx1.trans hx3
  clear hown3 hg3
  have HB:=Lib.hid (show (if 0<i then [(p,i - 1)] else ([]:List NN)).map evI=[((p:Int),(i:Int))] by rw [if_pos h0];simp [evI];omega)
  go_upto_region 5 with (go_at_call 143;refine (HE.out _ hx13).mono ?_;rintro e w4 ⟨rfl,hx4⟩)
  refine boxed1 (w:=w4) (G:=fun x=>Code.wp _ _ _ _ x) ?_
  intro w5 hx5 hs5 ⟨l5,c5,_,_⟩
  have hx55:Ext w5 w5:=Ext.refl _
  clear hs5
  have hx15:Ext w1 w5:=hx3.trans (hx4.trans hx5)
  have hx05:Ext w w5:=hx13.trans (hx4.trans hx5)
  have HO5:=Lib.hid (HO3.out.kept (hx4.trans hx5))
  by_cases hk3:T.kind p i=3
  ·have hlk:=HL.out hk3 w5 hx05
   obtain ⟨⟨sp,si⟩,hsn⟩:∃ s,s=(T.toTr.snd ⟨(p,i),hp,hi⟩).1:=⟨_,rfl⟩
   rw [HFS.out hk3,←hsn] at hlk
   simp only [evV] at hlk
   have HS:=Lib.hid (show (if T.kind p i=3 then [T.toTr.sndN (p,i)] else ([]:List NN)).map evI=[((sp:Int),(si:Int)+1)] by
    rw [if_pos hk3,show T.toTr.sndN (p,i)=(sp,si) from (Tr.sndN_eq _ ⟨(p,i),hp,hi⟩).trans hsn.symm];rfl)
   clear hsn
   go_wp2_with (first | (go_at_call 144;refine hlk.mono ?_;rintro e w7 ⟨rfl,hx7⟩;have hx17:=hx15.trans hx7) | (at_builtin;refine wpList_append_own _ rfl _ _ 68 rfl w1.heap.size 70 i0 (.agg #[.int .i64 0,.int .i64 0]) 2 16 Tryz.underlying68 hi0 hz0 hz1 hz2 rfl (by decide) v3 1 (evCells [((p:Int),(i:Int))]) rfl (by exact (EvOwn.kept HO5.out hx7).alloc _) ⟨w7.heap.size,0,none⟩ 1 1 [.int .i64 sp,.int .i64 (si+1)] rfl rfl (by exact news_ok w7 [_,_] _) (by intro u hu;simp at hu;rcases hu with rfl | rfl <;> rfl) (by unfold maxLen;omega) (by omega) (by have:=hx17.le;simp;omega) ?_;rintro v6 w6 hown6 hg6 -))
   go_ret
   refine ⟨_,rfl,?_,?_⟩
   ·unfold Tr.bk
    rw [List.map_append,HB.out,HS.out]
    exact World.ownsRow.mono (EvOwn.snoc (l:=[((p:Int),(i:Int))]) hown6) hx1.le
   ·exact hx1.trans (((Below.mono hx17 (Nat.le_refl _)).alloc hx17.le _).grown hg6 (by have:=hx17.le;simp;omega) HO5.out.block)
  ·have hk3b:(T.kind p i == 3)=false:=by simpa using hk3
   have HS:=Lib.hid (show (if T.kind p i=3 then [T.toTr.sndN (p,i)] else ([]:List NN)).map evI=[] by rw [if_neg hk3];rfl)
   go_wp2_with fail
   go_ret
   refine ⟨_,rfl,?_,hx05⟩
   unfold Tr.bk
   rw [List.map_append,HB.out,HS.out,List.append_nil]
   exact World.ownsRow.mono HO5.out hx1.le
 ·have d0:decide ((1:Int)<(i:Int)+1)=false:=decide_eq_false (by omega)
  have HO3:=Lib.hid (EvOwn.nil w1 w1.heap.size)
  have HB:=Lib.hid (show (if 0<i then [(p,i - 1)] else ([]:List NN)).map evI=[] by rw [if_neg h0];rfl)
  go_upto_region 5 with (go_at_call 143;refine (HE.out _ hx1).mono ?_;rintro e w4 ⟨rfl,hx4⟩)
  refine boxed1 (w:=w4) (G:=fun x=>Code.wp _ _ _ _ x) ?_
  intro w5 hx5 hs5 ⟨l5,c5,_,_⟩
  have hx55:Ext w5 w5:=Ext.refl _
  clear hs5
  have hx15:Ext w1 w5:=hx11.trans (hx4.trans hx5)
  have hx05:Ext w w5:=hx1.trans (hx4.trans hx5)
  have HO5:=Lib.hid (HO3.out.kept (hx4.trans hx5))
  by_cases hk3:T.kind p i=3
  ·have hlk:=HL.out hk3 w5 hx05
   obtain ⟨⟨sp,si⟩,hsn⟩:∃ s,s=(T.toTr.snd ⟨(p,i),hp,hi⟩).1:=⟨_,rfl⟩
   rw [HFS.out hk3,←hsn] at hlk
   simp only [evV] at hlk
   have HS:=Lib.hid (show (if T.kind p i=3 then [T.toTr.sndN (p,i)] else ([]:List NN)).map evI=[((sp:Int),(si:Int)+1)] by
    rw [if_pos hk3,show T.toTr.sndN (p,i)=(sp,si) from (Tr.sndN_eq _ ⟨(p,i),hp,hi⟩).trans hsn.symm];rfl)
   clear hsn
   go_wp2_with (first | (go_at_call 144;refine hlk.mono ?_;rintro e w7 ⟨rfl,hx7⟩;have hx17:=hx15.trans hx7) | (at_builtin;refine wpList_append_own _ rfl _ _ 68 rfl w1.heap.size 70 i0 (.agg #[.int .i64 0,.int .i64 0]) 2 16 Tryz.underlying68 hi0 hz0 hz1 hz2 rfl (by decide) (.slice none 0 0) 0 (evCells ([]:List (Int × Int))) rfl (by exact (EvOwn.kept HO5.out hx7).alloc _) ⟨w7.heap.size,0,none⟩ 1 1 [.int .i64 sp,.int .i64 (si+1)] rfl rfl (by exact news_ok w7 [_,_] _) (by intro u hu;simp at hu;rcases hu with rfl | rfl <;> rfl) (by unfold maxLen;omega) (by omega) (by have:=hx17.le;simp;omega) ?_;rintro v6 w6 hown6 hg6 -))
   go_ret
   refine ⟨_,rfl,?_,?_⟩
   ·unfold Tr.bk
    rw [List.map_append,HB.out,HS.out]
    exact World.ownsRow.mono (EvOwn.snoc (l:=([]:List (Int × Int))) hown6) hx1.le
   ·exact hx1.trans (((Below.mono hx17 (Nat.le_refl _)).alloc hx17.le _).grown hg6 (by have:=hx17.le;simp;omega) HO5.out.block)
  ·have hk3b:(T.kind p i == 3)=false:=by simpa using hk3
   have HS:=Lib.hid (show (if T.kind p i=3 then [T.toTr.sndN (p,i)] else ([]:List NN)).map evI=[] by rw [if_neg hk3];rfl)
   go_wp2_with fail
   go_ret
   refine ⟨_,rfl,?_,hx05⟩
   unfold Tr.bk
   rw [List.map_append,HB.out,HS.out,List.append_nil]
   exact World.ownsRow.mono HO5.out hx1.le
end Go.Proofs.YtlfdfkbmollaaaaGreatDoor
