/- Contracts and laws in plain Lean for RApp: group T05. -/
import Derived.Test.YtlfdfkbmollaaaaGreatDoorT04
import Derived.Deep.AppendLies
import Derived.Deep.RegionLaw
import Derived.Maps.AppendAt
import Derived.Test.YtlfdfkbmollaaaaGreatDoorT01
import Derived.Maps.OwnIn
import Derived.Sort.LoopGhostIn
set_option maxRecDepth 100000
namespace Go.Proofs.YtlfdfkbmollaaaaGreatDoor
open Go.RowKit Go.Shelf
def evCells (l:List (Int × Int)):List Value:=l.flatMap fun x=>[.int .i64 x.1,.int .i64 x.2]
theorem evCells_snoc (l:List (Int × Int)) (x:Int × Int):evCells (l++[x])=evCells l++[.int .i64 x.1,.int .i64 x.2]:=by simp [evCells]
theorem evCells_length (l:List (Int × Int)):(evCells l).length=l.length*2:=by
 induction l with
 | nil => rfl
 | cons x l ih => simp only [evCells,List.flatMap_cons,List.length_append,List.length_cons,List.length_nil] at ih ⊢;omega
theorem evCells_get0 (l:List (Int × Int)) (i:Nat) (h:i<l.length):(evCells l)[i*2]?=some (.int .i64 l[i].1):=by
 induction l generalizing i with
 | nil => simp at h
 | cons x l ih =>
  cases i with
  | zero => rfl
  | succ i =>
   have:=ih i (by simpa using h)
   show (.int .i64 x.1 :: .int .i64 x.2 :: evCells l)[(i+1)*2]?=_
   rw [show (i+1)*2=i*2+1+1 by omega,List.getElem?_cons_succ,List.getElem?_cons_succ,this];rfl
theorem evCells_get1 (l:List (Int × Int)) (i:Nat) (h:i<l.length):(evCells l)[i*2+1]?=some (.int .i64 l[i].2):=by
 induction l generalizing i with
 | nil => simp at h
 | cons x l ih =>
  cases i with
  | zero => rfl
  | succ i =>
   have:=ih i (by simpa using h)
   show (.int .i64 x.1 :: .int .i64 x.2 :: evCells l)[(i+1)*2+1]?=_
   rw [show (i+1)*2+1=i*2+1+1+1 by omega,List.getElem?_cons_succ,List.getElem?_cons_succ,this];rfl
def EvOwn (w:World) (base:Nat) (v:Value) (l:List (Int × Int)):Prop:=w.ownsRow base 70 2 v l.length (evCells l)
theorem EvOwn.nil (w:World) (base:Nat):EvOwn w base (.slice none 0 0) []:=World.ownsRow_nil _ _ _ _
theorem EvOwn.read {w : World} {base : Nat} {v : Value} {l : List (Int × Int)} (h : EvOwn w base v l) :
    ∃ a cap b,v=.slice a l.length cap∧l.length≤cap∧(0<l.length→a=some ⟨b,0,none⟩)∧(0<l.length→∀ w',Ext w w'→b<w'.heap.size)∧
     (∀ w',Ext w w'→∀ i (h:i<l.length),w'.cell? ⟨b,i*2,none⟩=some (.int .i64 l[i].1))∧(∀ w',Ext w w'→∀ i (h:i<l.length),w'.cell? ⟨b,i*2+1,none⟩=some (.int .i64 l[i].2)):=by
 obtain ⟨h1,⟨hv,hn⟩ | ⟨g,cap,cur,hv,hg,hh,hc,hm,hs,ht⟩⟩:=h
 ·exact ⟨none,0,0,by rw [hv,hn],by omega,fun h=>by omega,fun h=>by omega,fun w' _ i h=>by omega,fun w' _ i h=>by omega⟩
 ·have hb:=Box.of hh
  have hget:∀ j,j<l.length*2→cur[j]?=(evCells l)[j]?:=by
   intro j hj
   rw [←ht,List.getElem?_take_of_lt hj];simp
  refine ⟨_,cap,g,hv,hc,fun _=>rfl,fun _=>hb.lt,fun w' hx i hi=>?_,fun w' hx i hi=>?_⟩
  ·rw [hb.cell w' hx,hget _ (by omega),evCells_get0 l i hi]
  ·rw [hb.cell w' hx,hget _ (by omega),evCells_get1 l i hi]
theorem EvOwn.kept {w w':World} {base:Nat} {v:Value} {l:List (Int × Int)} (h:EvOwn w base v l) (x:Ext w w'):EvOwn w' base v l:=by
 obtain ⟨h1,⟨hv,hn⟩ | ⟨g,cap,cur,hv,hg,hh,rest⟩⟩:=h
 ·exact ⟨h1,.inl ⟨hv,hn⟩⟩
 ·exact ⟨h1,.inr ⟨g,cap,cur,hv,hg,(x.block g (Array.getElem?_eq_some_iff.1 hh).1).trans hh,rest⟩⟩
theorem EvOwn.base {w:World} {b b':Nat} {v:Value} {l:List (Int × Int)} (h:EvOwn w b v l) (hb:b'≤b):EvOwn w b' v l:=by
 obtain ⟨h1,⟨hv,hn⟩ | ⟨g,cap,cur,hv,hg,rest⟩⟩:=h
 ·exact ⟨h1,.inl ⟨hv,hn⟩⟩
 ·exact ⟨h1,.inr ⟨g,cap,cur,hv,by omega,rest⟩⟩
theorem EvOwn.block {w:World} {b:Nat} {v:Value} {l:List (Int × Int)} (h:EvOwn w b v l):∀ k,v.ownBlock=some k→b≤k:=by
 intro k hk
 obtain ⟨h1,⟨hv,hn⟩ | ⟨g,cap,cur,hv,hg,rest⟩⟩:=h
 ·subst hv;cases hk
 ·subst hv;simp [Value.ownBlock] at hk;omega
theorem EvOwn.snoc {w:World} {b:Nat} {v:Value} {l:List (Int × Int)} {x y:Int} (h:w.ownsRow b 70 2 v (l.length+1) (evCells l++[.int .i64 x,.int .i64 y])):EvOwn w b v (l++[(x,y)]):=by
 unfold EvOwn;rw [evCells_snoc,List.length_append];exact h
theorem infoEv:(Tryz.prog.info? 70).map (fun i=>(i.zero,i.size,i.bytes))=some (some (.agg #[.int .i64 0,.int .i64 0]),2,16):=by kernel_rfl
def Tr.aft (T:Tr) (L:Ltr) (k i:Nat):List (Int × Int):=
 (if i+1<T.en k then [((k:Int),(i:Int)+1+1)] else [])++(if T.kind k i=2∧0<L.ti (T.msg k i).toNat then [(L.tp (T.msg k i).toNat,L.ti (T.msg k i).toNat)] else [])
def AftPost (w:World) (l:List (Int × Int)) (e:Ending) (w':World):Prop:=∃ v,e=.returned v∧EvOwn w' w.heap.size v l∧Ext w w'
set_option maxHeartbeats 2000000 in
theorem after_any (w : World) (T : TM) (hT : T.At w) (L : Ltr) (bL : Nat) (hL : L.At w bL) (k i : Nat) (hk : k < T.n) (hi : i < T.en k) (hE : T.EvOk k i) :
    Calls Tryz.prog 185 #[T.val,.pointer (some ⟨bL,0,none⟩),.agg #[.int .i64 k,.int .i64 (i+1)]] w (AftPost w (T.aft L k i)):=by
 have hk':(k:Int)<(T.n:Int):=by omega
 have hi':(i:Int)<(T.en k:Int):=by omega
 have pa:=hT.P.pa (by omega)
 have pb:=hT.P.pb (by omega)
 have p2:=hT.P.p2
 have ea:=hT.E.ea k hk (by omega)
 have eb:=hT.E.eb k hk (by omega)
 have e0:=hT.E.e0
 have e1:=hT.E.e1
 have e2:=hT.E.e2
 have e3:=hT.E.e3
 have e4:=hT.E.e4
 have hen:=hT.E.he k hk
 have HT:=Lib.hid hT
 have HL:=Lib.hid hL
 clear hT hL
 obtain ⟨i0,hi0,hz0,hz1,hz2⟩:=info_parts infoEv
 go_enter Tryz.func185,Tryz.ntmps185
 go_upto_region 1 with fail
 refine boxed2 (w:=w) (G:=fun x=>Code.wp _ _ _ _ x) ?_
 intro w2 hx2 hs2 ⟨l0,c0,_,_⟩ ⟨l1,c1,_,_⟩
 have HS:=Lib.hid hs2
 have hx22:Ext w2 w2:=Ext.refl _
 clear hs2
 by_cases h1:i+1<T.en k
 ·have h1':(i:Int)+1<(T.en k:Int):=by omega
  go_wp2_with (at_builtin;refine wpList_append_own _ rfl _ _ 68 rfl w2.heap.size 70 i0 (.agg #[.int .i64 0,.int .i64 0]) 2 16 Tryz.underlying68 hi0 hz0 hz1 hz2 rfl (by decide) (.slice none 0 0) 0 [] rfl (World.ownsRow_nil _ _ _ _) ⟨w2.heap.size,0,none⟩ 1 1 [.int .i64 k,.int .i64 (i+1+1)] rfl rfl ?c1 ?c2 ?c3 ?c4 ?c5 ?_)
  case c1=>exact news_ok w2 [_,_] _
  case c2=>intro u hu;simp at hu;rcases hu with rfl | rfl <;> rfl
  case c3=>unfold maxLen;omega
  case c4=>omega
  case c5=>simp
  rintro v1 w3 hown hg -
  have hx3:Ext w2 w3:=(Ext.alloc _ _).trans (Ext.grown hg)
  have HO:=Lib.hid (show EvOwn w3 w2.heap.size v1 [((k:Int),(i:Int)+1+1)] from hown)
  have HA:=Lib.hid (show ∀ l,[((k:Int),(i:Int)+1+1)]++l=(if i+1<T.en k then [((k:Int),(i:Int)+1+1)] else [])++l from fun l=>by rw [if_pos h1])
  clear hown hg
  have hx33:Ext w3 w3:=Ext.refl _
  have hxw3:Ext w w3:=hx2.trans hx3
  go_upto_region 6 with fail
  refine boxed1 (w:=w3) (G:=fun x=>Code.wp _ _ _ _ x) ?_
  intro w4 hx4 hs4 ⟨l4,c4,_,_⟩
  clear hs4
  have hx44:Ext w4 w4:=Ext.refl _
  have hx24:Ext w2 w4:=hx3.trans hx4
  have hxw4:Ext w w4:=hxw3.trans hx4
  by_cases hk2:T.kind k i=2
  ·obtain ⟨m,hm,hm2⟩:∃ m:Nat,T.msg k i=m∧m<200:=⟨(T.msg k i).toNat,by rcases hE.1 with h | h <;> omega,by rcases hE.1 with h | h <;> omega⟩
   have HM:=Lib.hid hm
   have hm3:(m:Int)<200:=by omega
   have q2:=fun w' (h:Ext w4 w')=>(HL.out.ext (hxw4.trans h)).c2 m hm2
   have q3:=fun w' (h:Ext w4 w')=>(HL.out.ext (hxw4.trans h)).c3 m hm2
   have hkb:(T.kind k i == 2)=true:=by rw [hk2];rfl
   by_cases ht:0<L.ti m
   ·go_quiet (fail)
    go_wp2
    have HO2:∀ w',Ext w4 w'→w'.ownsRow w2.heap.size 70 2 v1 1 (evCells [((k:Int),(i:Int)+1+1)]):=fun w' h=>HO.out.kept (hx4.trans h)
    have HO2:=Lib.hid HO2
    have hmx:1+1≤maxLen:=by unfold maxLen;omega
    go_region_law (refine step_append_lies _ (by exact rfl) (.tmp 51) (.tmp 59) 68 (by exact rfl) w2.heap.size 70 i0 (.agg #[.int .i64 0,.int .i64 0]) 2 16 Tryz.underlying68 hi0 hz0 hz1 hz2 rfl (by decide) v1 1 (evCells [((k:Int),(i:Int)+1+1)]) (by exact rfl) (by exact HO2.out _ (((Ext.refl w4).drewN _).alloc' _)) ⟨w4.heap.size,0,none⟩ 1 1 [.int .i64 (L.tp m),.int .i64 (L.ti m)] (by exact rfl) rfl (by intro j u hj;exact news_ok w4 [_,_] _ j u hj) (by intro u hu;simp at hu;rcases hu with rfl | rfl <;> rfl) (by decide) hmx (by omega) (by have:=hx24.le;simp;omega) _ rfl ?_;rintro g5 cap5 w5 hown5 hg5 hor5 hlt5)
    all_goals go_wp2
    all_goals go_ret
    refine ⟨_,rfl,?_,?_⟩
    ·unfold Tr.aft;rw [←HA.out,if_pos ⟨hk2,by rw [HM.out,Int.toNat_natCast];exact ht⟩,HM.out,Int.toNat_natCast]
     exact (EvOwn.snoc (l:=[((k:Int),(i:Int)+1+1)]) hown5).base hx2.le
    ·exact hx2.trans ((((hx24.drewN _).alloc' _).below).grown hg5 (by have:=hx24.le;simp;omega) HO.out.block)
   ·go_quiet (fail)
    go_wp2
    go_ret
    exact ⟨v1,rfl,by unfold Tr.aft;rw [←HA.out,if_neg (fun h=>by rw [HM.out,Int.toNat_natCast] at h;have:=h.2;omega),List.append_nil];exact (HO.out.kept (hx4.drewN _)).base hx2.le,hxw4.drewN _⟩
  ·have hkb:(T.kind k i == 2)=false:=by simpa using hk2
   go_quiet (fail)
   go_wp2
   go_ret
   exact ⟨v1,rfl,by unfold Tr.aft;rw [←HA.out,if_neg (fun h=>hk2 h.1),List.append_nil];exact (HO.out.kept (hx4.drewN _)).base hx2.le,hxw4.drewN _⟩
 ·have h1':¬(i:Int)+1<(T.en k:Int):=by omega
  have HO:=Lib.hid (EvOwn.nil w2 w2.heap.size)
  have HA:=Lib.hid (show ∀ l:List (Int × Int),[]++l=(if i+1<T.en k then [((k:Int),(i:Int)+1+1)] else [])++l from fun l=>by rw [if_neg h1])
  have hx3:Ext w2 w2:=Ext.refl _
  have hxw3:Ext w w2:=hx2
  go_upto_region 6 with fail
  refine boxed1 (w:=w2) (G:=fun x=>Code.wp _ _ _ _ x) ?_
  intro w4 hx4 hs4 ⟨l4,c4,_,_⟩
  clear hs4
  have hx44:Ext w4 w4:=Ext.refl _
  have hx24:Ext w2 w4:=hx3.trans hx4
  have hxw4:Ext w w4:=hxw3.trans hx4
  by_cases hk2:T.kind k i=2
  ·obtain ⟨m,hm,hm2⟩:∃ m:Nat,T.msg k i=m∧m<200:=⟨(T.msg k i).toNat,by rcases hE.1 with h | h <;> omega,by rcases hE.1 with h | h <;> omega⟩
   have HM:=Lib.hid hm
   have hm3:(m:Int)<200:=by omega
   have q2:=fun w' (h:Ext w4 w')=>(HL.out.ext (hxw4.trans h)).c2 m hm2
   have q3:=fun w' (h:Ext w4 w')=>(HL.out.ext (hxw4.trans h)).c3 m hm2
   have hkb:(T.kind k i == 2)=true:=by rw [hk2];rfl
   by_cases ht:0<L.ti m
   ·go_quiet (fail)
    go_wp2
    have HO2:∀ w',Ext w4 w'→w'.ownsRow w2.heap.size 70 2 (.slice none 0 0) 0 (evCells ([]:List (Int × Int))):=fun w' h=>HO.out.kept (hx4.trans h)
    have HO2:=Lib.hid HO2
    have hmx:0+1≤maxLen:=by unfold maxLen;omega
    go_region_law (refine step_append_lies _ (by exact rfl) (.tmp 51) (.tmp 59) 68 (by exact rfl) w2.heap.size 70 i0 (.agg #[.int .i64 0,.int .i64 0]) 2 16 Tryz.underlying68 hi0 hz0 hz1 hz2 rfl (by decide) (.slice none 0 0) 0 (evCells ([]:List (Int × Int))) (by exact rfl) (by exact HO2.out _ (((Ext.refl w4).drewN _).alloc' _)) ⟨w4.heap.size,0,none⟩ 1 1 [.int .i64 (L.tp m),.int .i64 (L.ti m)] (by exact rfl) rfl (by intro j u hj;exact news_ok w4 [_,_] _ j u hj) (by intro u hu;simp at hu;rcases hu with rfl | rfl <;> rfl) (by decide) hmx (by omega) (by have:=hx24.le;simp;omega) _ rfl ?_;rintro g5 cap5 w5 hown5 hg5 hor5 hlt5)
    all_goals go_wp2
    all_goals go_ret
    refine ⟨_,rfl,?_,?_⟩
    ·unfold Tr.aft;rw [←HA.out,if_pos ⟨hk2,by rw [HM.out,Int.toNat_natCast];exact ht⟩,HM.out,Int.toNat_natCast]
     exact (EvOwn.snoc (l:=([]:List (Int × Int))) hown5).base hx2.le
    ·exact hx2.trans ((((hx24.drewN _).alloc' _).below).grown hg5 (by have:=hx24.le;simp;omega) HO.out.block)
   ·go_quiet (fail)
    go_wp2
    go_ret
    exact ⟨(.slice none 0 0),rfl,by unfold Tr.aft;rw [←HA.out,if_neg (fun h=>by rw [HM.out,Int.toNat_natCast] at h;have:=h.2;omega),List.append_nil];exact (HO.out.kept (hx4.drewN _)).base hx2.le,hxw4.drewN _⟩
  ·have hkb:(T.kind k i == 2)=false:=by simpa using hk2
   go_quiet (fail)
   go_wp2
   go_ret
   exact ⟨(.slice none 0 0),rfl,by unfold Tr.aft;rw [←HA.out,if_neg (fun h=>hk2 h.1),List.append_nil];exact (HO.out.kept (hx4.drewN _)).base hx2.le,hxw4.drewN _⟩
abbrev evV (x:Int × Int):Value:=.agg #[.int .i64 x.1,.int .i64 x.2]
theorem run_equalIn_int (d:Nat) (a b:Int) (w:World):(Op.equalIn (d+1) 3 (.int .i64 a) (.int .i64 b)).run Tryz.prog w=.ok (a == b) w:=by
 rw [Op.equalIn];simp [go_sem,run_underlying Tryz.underlying3]
theorem run_equalIn_ev (d:Nat) (x y:Int × Int) (w:World):(Op.equalIn (d+1+1) 70 (evV x) (evV y)).run Tryz.prog w=.ok (x.1 == y.1 && x.2 == y.2) w:=by
 rw [Op.equalIn]
 by_cases h:x.1=y.1
 ·by_cases h2:x.2=y.2
  ·simp [go_sem,run_underlying Tryz.underlying70,run_equalIn_int,h,h2]
  ·simp [go_sem,run_underlying Tryz.underlying70,run_equalIn_int,h,h2]
 ·simp [go_sem,run_underlying Tryz.underlying70,run_equalIn_int,h]
theorem run_equal_ev (x y:Int × Int) (w:World):(Op.equal 70 (evV x) (evV y)).run Tryz.prog w=.ok (x.1 == y.1 && x.2 == y.2) w:=run_equalIn_ev 9998 x y w
def SetAt (w:World) (b:Nat) (S:List (Int × Int)):Prop:=
 ∃ es clock,w.heap[b]?=some (.map es clock)∧es.toList.map (fun e=>(e.key,e.val))=S.map (fun x=>(evV x,.bool true))
theorem eq_pair (x y:Int × Int):(x.1 == y.1 && x.2 == y.2)=decide (x=y):=by
 rw [Bool.eq_iff_iff];simp [Prod.ext_iff]
def placeOf (y:Int × Int):List (Int × Int)→Nat→Option (Nat × Value)
 | [],_ => none
 | x :: S,i => if y=x then some (i,.bool true) else placeOf y S (i+1)
theorem run_findAsking_ev (y : Int × Int) (w : World) : ∀ (es : List MapEntry) (S : List (Int × Int)) (i : Nat), es.map (fun e => (e.key, e.val)) = S.map (fun x => (evV x, Value.bool true)) →
    (Instr.findAsking 70 (evV y) es i).run Tryz.prog w=.ok (placeOf y S i) w
 | [],[],i,_ => by simp [Instr.findAsking,placeOf]
 | [],_ :: _,_,h => by simp at h
 | _ :: _,[],_,h => by simp at h
 | e :: es,x :: S,i,h => by
  simp only [List.map_cons,List.cons.injEq,Prod.mk.injEq] at h
  obtain ⟨⟨h1,h2⟩,h3⟩:=h
  have ih:=run_findAsking_ev y w es S (i+1) h3
  have he:=run_equal_ev y x w
  rw [eq_pair] at he
  by_cases e':y=x
  ·subst e';simp [Instr.findAsking,Sem.run_bind,placeOf,h1,h2,he]
  ·simp [Instr.findAsking,Sem.run_bind,placeOf,h1,he,e',ih]
theorem findNow_ev {d:TypeDesc} {fs:Array Field} (hd:d=.struct fs) (y:Int × Int) (e:MapEntry) (es:List MapEntry) (i:Nat):Instr.findNow d (evV y) (e :: es) i=none:=by
 subst hd;simp [Instr.findNow,Instr.sameNow]
theorem run_findKey_ev (y : Int × Int) (w : World) (es : List MapEntry) (S : List (Int × Int)) (h : es.map (fun e => (e.key, e.val)) = S.map (fun x => (evV x, Value.bool true))) :
    (Instr.findKey 70 (evV y) es).run Tryz.prog w=.ok (placeOf y S 0) w:=by
 unfold Instr.findKey
 cases es with
 | nil =>
  cases S with
  | nil => simp [run_underlying Tryz.underlying70,Instr.findNow,placeOf]
  | cons x S => simp at h
 | cons e es =>
  have hf:=run_findAsking_ev y w (e :: es) S 0 h
  simp [Sem.run_bind,run_underlying Tryz.underlying70,findNow_ev rfl,hf]
theorem run_checkKey_ev (b:Bool) (y:Int × Int) (w:World):(Instr.checkKey b 10000 70 (evV y)).run Tryz.prog w=.ok () w:=by
 have h1:∀ (d:Nat) (a:Int) (w:World),(Instr.checkKey b (d+1) 3 (.int .i64 a)).run Tryz.prog w=.ok () w:=by
  intro d a w
  rw [Instr.checkKey];simp [go_sem,run_underlying Tryz.underlying3]
 show (Instr.checkKey b (9998+1+1) 70 (evV y)).run Tryz.prog w=_
 rw [Instr.checkKey]
 simp [go_sem,run_underlying Tryz.underlying70,h1]
theorem placeOf_none {y:Int × Int}:∀ (S:List (Int × Int)) (i:Nat),y∉S→placeOf y S i=none
 | [],_,_ => rfl
 | x :: S,i,h => by
  simp only [List.mem_cons,not_or] at h
  rw [placeOf,if_neg h.1];exact placeOf_none S (i+1) h.2
theorem placeOf_some {y:Int × Int}:∀ (S:List (Int × Int)) (i:Nat),y∈S→∃ j,placeOf y S i=some (j,.bool true)
 | [],_,h => by cases h
 | x :: S,i,h => by
  by_cases e:y=x
  ·exact ⟨i,by rw [placeOf,if_pos e]⟩
  ·rcases List.mem_cons.1 h with h | h
   ·exact absurd h e
   ·obtain ⟨j,hj⟩:=placeOf_some S (i+1) h
    exact ⟨j,by rw [placeOf,if_neg e];exact hj⟩
theorem run_lookup_ev {w : World} {b : Nat} {S : List (Int × Int)} (h : SetAt w b S) (y : Int × Int) :
    (Instr.lookup 67 (.map (some b)) (evV y) false).run Tryz.prog w=.ok (.bool (decide (y∈S))) w:=by
 obtain ⟨es,clock,hb,he⟩:=h
 have hk:=fun c=>run_checkKey_ev c y w
 have hf:=run_findKey_ev y w es.toList S he
 by_cases hy:y∈S
 ·obtain ⟨j,hj⟩:=placeOf_some S 0 hy
  rw [hj] at hf
  simp [Instr.lookup,Sem.run_bind,run_underlying Tryz.underlying67,getObj,Sem.run,hb,hk,hf,hy]
 ·rw [placeOf_none S 0 hy] at hf
  have hz:(zeroValue 4).run Tryz.prog w=.ok (.bool false) w:=by kernel_rfl
  simp [Instr.lookup,Sem.run_bind,run_underlying Tryz.underlying67,getObj,Sem.run,hb,hk,hf,hy,hz]
theorem run_update_ev {w : World} {b : Nat} {S : List (Int × Int)} (h : SetAt w b S) (y : Int × Int) (hy : y ∉ S) :
    ∃ o,(Instr.mapUpdate 67 (.map (some b)) (evV y) (.bool true)).run Tryz.prog w=.ok () (w.putObj b o)∧SetAt (w.putObj b o) b (S++[y]):=by
 obtain ⟨es,clock,hb,he⟩:=h
 have hk:=fun c=>run_checkKey_ev c y w
 have hf:=run_findKey_ev y w es.toList S he
 rw [placeOf_none S 0 hy] at hf
 refine ⟨.map (es.push { key:=evV y,val:=.bool true,born:=clock }) (clock+1),?_,es.push { key:=evV y,val:=.bool true,born:=clock },clock+1,?_,by simp [he]⟩
 ·simp [Instr.mapUpdate,Sem.run_bind,run_underlying Tryz.underlying67,getObj,setObj,Sem.run,hb,hk,hf,World.putObj]
 ·have hlt:=(Array.getElem?_eq_some_iff.1 hb).1
  simp [World.putObj,hlt]
abbrev evI (x:NN):Int × Int:=((x.1:Int),(x.2:Int)+1)
theorem evI_inj {x y:NN} (h:evI x=evI y):x=y:=by
 simp only [evI,Prod.mk.injEq] at h
 exact Prod.ext (by omega) (by omega)
theorem evI_mem {x:NN} {S:List NN}:evI x∈S.map evI↔x∈S:=by
 constructor
 ·intro h;obtain ⟨y,hy,e⟩:=List.mem_map.1 h;rw [←evI_inj e];exact hy
 ·intro h;exact List.mem_map.2 ⟨x,h,rfl⟩
theorem SetAt.ext {w w':World} {b:Nat} {S:List (Int × Int)} (h:SetAt w b S) (x:Ext w w'):SetAt w' b S:=by
 obtain ⟨es,c,hb,he⟩:=h
 exact ⟨es,c,(x.block b (Array.getElem?_eq_some_iff.1 hb).1).trans hb,he⟩
theorem SetAt.lt {w:World} {b:Nat} {S:List (Int × Int)} (h:SetAt w b S):b<w.heap.size:=by
 obtain ⟨es,c,hb,he⟩:=h;exact (Array.getElem?_eq_some_iff.1 hb).1
theorem SetAt.new (w:World):SetAt (w.alloc (.map #[] 0)) w.heap.size []:=⟨#[],0,by show (w.heap.push _)[w.heap.size]?=_;simp,rfl⟩
theorem EvOwn.not_map {w:World} {base:Nat} {v:Value} {l:List (Int × Int)} {b:Nat} {S:List (Int × Int)} (h:EvOwn w base v l) (hs:SetAt w b S):v.ownBlock≠some b:=by
 intro e
 obtain ⟨es,c,hb,_⟩:=hs
 obtain ⟨_,⟨hv,_⟩ | ⟨g,cap,cur,hv,_,hh,_⟩⟩:=h
 ·subst hv;cases e
 ·subst hv;simp [Value.ownBlock] at e;subst e;rw [hb] at hh;cases hh
theorem EvOwn.lt {w:World} {base:Nat} {v:Value} {l:List (Int × Int)} (h:EvOwn w base v l):∀ g,v.ownBlock=some g→g<w.heap.size:=by
 intro k hk
 obtain ⟨_,⟨hv,_⟩ | ⟨g,cap,cur,hv,_,hh,_⟩⟩:=h
 ·subst hv;cases hk
 ·subst hv;simp [Value.ownBlock] at hk;subst hk;exact (Array.getElem?_eq_some_iff.1 hh).1
theorem EvOwn.same {w w':World} {base:Nat} {v:Value} {l:List (Int × Int)} (h:EvOwn w base v l) (hs:∀ g,v.ownBlock=some g→w'.heap[g]?=w.heap[g]?):EvOwn w' base v l:=by
 obtain ⟨h1,⟨hv,hn⟩ | ⟨g,cap,cur,hv,hg,hh,rest⟩⟩:=h
 ·exact ⟨h1,.inl ⟨hv,hn⟩⟩
 ·exact ⟨h1,.inr ⟨g,cap,cur,hv,hg,(hs g (by subst hv;rfl)).trans hh,rest⟩⟩
theorem EvOwn.pop {w:World} {base g cap:Nat} {l:List (Int × Int)} {x:Int × Int} (h:EvOwn w base (.slice (some ⟨g,0,none⟩) (l.length+1) cap) (l++[x])):EvOwn w base (.slice (some ⟨g,0,none⟩) l.length cap) l:=by
 obtain ⟨h1,⟨hv,hn⟩ | ⟨g',cap',cur,hv,hg,hh,hc,hm,hs,ht⟩⟩:=h
 ·simp at hn
 ·simp at hv
  obtain ⟨rfl,rfl⟩:=hv
  refine ⟨evCells_length l,.inr ⟨g,cap,cur,rfl,hg,hh,by simp at hc;omega,hm,hs,?_⟩⟩
  have:cur.toList.take (l.length*2)=(cur.toList.take ((l++[x]).length*2)).take (l.length*2):=by
   rw [List.take_take];congr 1;simp
  rw [this,ht,evCells_snoc,List.take_append_of_le_length (by rw [evCells_length];exact Nat.le_refl _),List.take_of_length_le (by rw [evCells_length];exact Nat.le_refl _)]
theorem EvOwn.len {w:World} {base:Nat} {v:Value} {l:List (Int × Int)} (h:EvOwn w base v l):l.length≤maxLen:=by
 obtain ⟨h1,⟨hv,hn⟩ | ⟨g',cap',cur,hv,hg,hh,hc,hm,_⟩⟩:=h
 ·omega
 ·omega
structure CycS (R:NN→List NN) (V:NN→Prop) (s:NN) (W0:World) (bm:Nat) (S rest:List NN) (x:NN) (todo:List NN) (v:Value) (w:World):Prop where
 ext:Ext W0 w
 own:EvOwn w W0.heap.size v (rest.map evI)
 set:SetAt w bm (S.map evI)
 hbm:W0.heap.size≤bm
 dfs:Dfs R V s S rest x todo
section
variable {R:NN→List NN} {V:NN→Prop} {s:NN} {W0:World} {bm:Nat} {S rest:List NN} {x:NN} {todo:List NN} {v:Value} {w:World}
theorem CycS.kept {w':World} (h:CycS R V s W0 bm S rest x todo v w) (e:Ext w w'):CycS R V s W0 bm S rest x todo v w':=
 ⟨h.ext.trans e,h.own.kept e,h.set.ext e,h.hbm,h.dfs⟩
theorem CycS.skip {y:NN} (h:CycS R V s W0 bm S rest x (y :: todo) v w) (hy:y∈S):CycS R V s W0 bm S rest x todo v w:=⟨h.ext,h.own,h.set,h.hbm,h.dfs.skip hy⟩
theorem CycS.push {y : NN} {v2 v' : Value} {l2 : List (Int × Int)} {base2 : Nat} {o : Obj} {w' : World} {c : Array Value} {t : TypeId}
    (h:CycS R V s W0 bm S rest x (y :: todo) v w) (h2:EvOwn w base2 v2 l2) (hap:∀ g,v.ownBlock=some g→v2.ownBlock≠some g)
    (hy:y∉S) (hys:y≠s) (hv:V y) (hset:SetAt (w.putObj bm o) bm (S.map evI++[evI y]))
    (hown:w'.ownsRow W0.heap.size 70 2 v' ((rest.map evI).length+1) (evCells (rest.map evI)++[.int .i64 (evI y).1,.int .i64 (evI y).2]))
    (hg:((w.putObj bm o).alloc (.cells c t)).grownBy w' v.ownBlock) (hat:v'.ownBlock=v.ownBlock∨v'.ownBlock=some ((w.putObj bm o).alloc (.cells c t)).heap.size) :
    CycS R V s W0 bm (S++[y]) (rest++[y]) x todo v' w'∧EvOwn w' base2 v2 l2∧∀ g,v'.ownBlock=some g→v2.ownBlock≠some g:=by
 have hbl:bm<w.heap.size:=h.set.lt
 have hps:(w.putObj bm o).heap.size=w.heap.size:=by simp
 have hne:=h.own.not_map h.set
 have hput:∀ k,k≠bm→(w.putObj bm o).heap[k]?=w.heap[k]?:=fun k hk=>World.putObj_heap_other hk
 refine ⟨⟨?_,?_,?_,h.hbm,h.dfs.push hy hys hv⟩,?_,?_⟩
 ·have e1:Below W0.heap.size W0 (w.putObj bm o):=h.ext.below.trans ⟨rfl,rfl,rfl,by rw [hps];exact Nat.le_refl _,fun k hk=>hput k (by have:=h.hbm;omega)⟩
  exact (e1.alloc (by rw [hps];exact h.ext.le) _).grown hg (by rw [World.size_alloc,hps];have:=h.ext.le;omega) h.own.block
 ·rw [List.map_append];exact EvOwn.snoc hown
 ·rw [List.map_append]
  obtain ⟨es,cl,hb,he⟩:=hset
  refine ⟨es,cl,?_,he⟩
  rw [hg.block bm (by rw [World.size_alloc,hps];omega) (fun e=>hne e.symm),Below.heap_alloc _ _ _ (by rw [hps];exact hbl)]
  exact hb
 ·refine h2.same fun g e=>?_
  have hlt:=h2.lt g e
  rw [hg.block g (by rw [World.size_alloc,hps];omega) (fun e'=>hap g e'.symm e),Below.heap_alloc _ _ _ (by rw [hps];exact hlt),hput g (fun e'=>h2.not_map h.set (e'▸e))]
 ·intro g e e2
  rcases hat with e' | e'
  ·exact hap g (e'▸e) e2
  ·rw [e'] at e
   have:=h2.lt g e2
   simp [hps] at e;omega
end
end Go.Proofs.YtlfdfkbmollaaaaGreatDoor

namespace Go.Proofs.YtlfdfkbmollaaaaGreatDoor
open Go.RowKit Go.Shelf Go.Maps
attribute [local go_sem] Oper.semAt_some
def Tr.succ (T:Tr) (L:Ltr) (x:NN):List NN:=
 (if x.2+1<T.en x.1 then [(x.1,x.2+1)] else [])++(if T.kind x.1 x.2=2∧0<L.ti (T.msg x.1 x.2).toNat then [((L.tp (T.msg x.1 x.2).toNat).toNat,(L.ti (T.msg x.1 x.2).toNat - 1).toNat)] else [])
def Tr.V (T:Tr) (x:NN):Prop:=x.1<T.n∧x.2<T.en x.1
def Ltr.Ok (T:Tr) (L:Ltr):Prop:=∀ m,m<200→0<L.ti m→∃ k i:Nat,k<T.n∧i<T.en k∧L.tp m=k∧L.ti m=i+1
theorem msg_lt {T:Tr} {k i:Nat} (h:FormedP T k (T.kind k i) (T.peer k i) (T.msg k i)):(T.msg k i).toNat<200:=by rcases h with h | h <;> omega
theorem aft_eq {T:Tr} {L:Ltr} (hL:L.Ok T) {x:NN} (hE:FormedP T x.1 (T.kind x.1 x.2) (T.peer x.1 x.2) (T.msg x.1 x.2)):T.aft L x.1 x.2=(T.succ L x).map evI:=by
 unfold Tr.aft Tr.succ
 rw [List.map_append]
 congr 1
 ·by_cases h:x.2+1<T.en x.1 <;> simp [h,evI]
 ·by_cases h:T.kind x.1 x.2=2∧0<L.ti (T.msg x.1 x.2).toNat
  ·obtain ⟨k,i,_,_,h1,h2⟩:=hL _ (msg_lt hE) h.2
   rw [if_pos h,if_pos h];simp [evI,h1,h2]
  ·rw [if_neg h,if_neg h];rfl
theorem succ_valid {T:Tr} {L:Ltr} (hL:L.Ok T) {x:NN} (hx:T.V x) (hE:FormedP T x.1 (T.kind x.1 x.2) (T.peer x.1 x.2) (T.msg x.1 x.2)):∀ y,y∈T.succ L x→T.V y:=by
 intro y hy
 unfold Tr.succ at hy
 rcases List.mem_append.1 hy with hy | hy
 ·by_cases h:x.2+1<T.en x.1
  ·rw [if_pos h] at hy;simp at hy;subst hy;exact ⟨hx.1,h⟩
  ·rw [if_neg h] at hy;cases hy
 ·by_cases h:T.kind x.1 x.2=2∧0<L.ti (T.msg x.1 x.2).toNat
  ·obtain ⟨k,i,hk,hi,h1,h2⟩:=hL _ (msg_lt hE) h.2
   rw [if_pos h] at hy;simp [h1,h2] at hy;subst hy;exact ⟨hk,hi⟩
  ·rw [if_neg h] at hy;cases hy
theorem evs_mem {T:Tr} {x:NN} (h:T.V x):x∈T.evs.map (·.1):=by
 have hp:=T.evsTo_prefix x.1 (x.2+1) h.1 h.2
 rw [T.evsTo_succ x.1 x.2 h.1 h.2] at hp
 obtain ⟨r,hr⟩:=hp
 rw [←hr];simp
theorem evs_count {T:Tr} {S:List NN} (hn:S.Nodup) (hv:∀ y,y∈S→T.V y):S.length≤T.evs.length:=by
 have:=nodup_le S (T.evs.map (·.1)) hn (fun y hy=>evs_mem (hv y hy))
 simpa using this
structure CycI (T:TM) (L:Ltr) (bL:Nat) (w:World) (pre:List T.toTr.Id) (W:World):Prop where
 h0:Hold W w.heap.size #[.slice T.a T.n T.cap]
 h1:Hold W (w.heap.size+1) #[.pointer (some ⟨bL,0,none⟩)]
 h2:Hold W (w.heap.size+1+1) #[.int .i64 0,.int .i64 0]
 h3:Hold W (w.heap.size+1+1+1) #[.bool false]
 bl:Below w.heap.size w W
 ok:∀ x,x∈pre→¬Path (T.toTr.succ L) x.1 x.1
structure CycX (T:TM) (L:Ltr) (w:World) (pre:List T.toTr.Id) (W:World):Prop where
 res:∃ p q:Int,Hold W (w.heap.size+1+1) #[.int .i64 p,.int .i64 q]∧Hold W (w.heap.size+1+1+1) #[.bool true]
 bl:Below w.heap.size w W
 bad:∃ x:T.toTr.Id,Path (T.toTr.succ L) x.1 x.1
theorem CycI.own (T:TM) (L:Ltr) (bL:Nat) (w w0:World) (h:w.heap.size≤w0.heap.size):OwnFrom w0.heap.size (CycI T L bL w):=by
 intro s W W' row hi hg hr
 exact ⟨Hold.own _ _ (fun _=>_) s W W' row hi.h0 hg hr,Hold.own _ _ (fun _=>_) s W W' row hi.h1 hg hr,Hold.own _ _ (fun _=>_) s W W' row hi.h2 hg hr,Hold.own _ _ (fun _=>_) s W W' row hi.h3 hg hr,ownFrom_below (Nat.le_refl _) h s W W' row hi.bl hg hr,hi.ok⟩
theorem CycX.own (T:TM) (L:Ltr) (w w0:World) (h:w.heap.size≤w0.heap.size):OwnFrom w0.heap.size (CycX T L w):=by
 intro s W W' row ⟨⟨p,q,a,b⟩,hb,hbad⟩ hg hr
 exact ⟨⟨p,q,Hold.own _ _ (fun _=>_) s W W' row a hg hr,Hold.own _ _ (fun _=>_) s W W' row b hg hr⟩,ownFrom_below (Nat.le_refl _) h s W W' row hb hg hr,hbad⟩
theorem CycI.ext {T:TM} {L:Ltr} {bL:Nat} {w:World} {pre:List T.toTr.Id} {W W':World} (h:CycI T L bL w pre W) (x:Ext W W'):CycI T L bL w pre W':=
 ⟨h.h0.ext x,h.h1.ext x,h.h2.ext x,h.h3.ext x,h.bl.trans (Below.mono x h.bl.size),h.ok⟩
def CycPost (T:TM) (L:Ltr) (w:World) (e:Ending) (w':World):Prop:=Ext w w'∧∃ (p q:Int) (b:Bool),e=.returned (.tuple #[.agg #[.int .i64 p,.int .i64 q],.bool b])∧(b=true↔∃ x:T.toTr.Id,Path (T.toTr.succ L) x.1 x.1)
@[reducible] noncomputable def cycFrame (T:TM) (w:World) (bL:Nat) (x:T.toTr.Id) (bx:Nat):Act:={ tmps:=#[T.val,.pointer (some ⟨bL,0,none⟩),.pointer (some ⟨w.heap.size,0,none⟩),.pointer (some ⟨w.heap.size+1,0,none⟩),.pointer (some ⟨w.heap.size+1+1,0,none⟩),.pointer (some ⟨w.heap.size+1+1+1,0,none⟩),.pointer (some ⟨bx,0,none⟩),undef,undef,undef,undef,undef,.agg #[.slice T.a T.n T.cap],.func (.func 180) #[] #[.pointer (some ⟨w.heap.size+1+1+1+1,0,none⟩)],.agg #[.int .i64 x.1.1,.int .i64 (x.1.2+1)],T.ev x.1.1 x.1.2,undef,undef,undef,undef,undef,undef,undef,undef,undef,undef,undef,undef,undef,undef,undef,undef,undef,undef,undef,undef,undef,undef,undef,undef,undef,undef,undef,undef,undef,undef,undef,undef,undef,undef,undef,undef,undef,undef,undef,undef,undef,undef],defers:=[] }
structure CycA (T:TM) (w:World) (x:T.toTr.Id) (bx:Nat) (W:World):Prop where
 hx:Hold W bx #[.int .i64 x.1.1,.int .i64 (x.1.2+1)]
 lt:w.heap.size+1+1+1<bx
theorem CycA.own (T:TM) (w w0:World) (bL:Nat) (x:T.toTr.Id) (a':Act):OwnFrom w0.heap.size (fun (_:Unit) W=>∃ bx,CycA T w x bx W∧a'=cycFrame T w bL x bx):=by
 intro s W W' row ⟨bx,⟨h1,h3⟩,e⟩ hg hr
 exact ⟨bx,⟨Hold.own _ _ (fun _=>_) s W W' row h1 hg hr,h3⟩,e⟩
theorem cyc_results (tmps : Array Value) (W : World) (b2 b3 : Nat) (x y z : Value) (t2 : tmps[4]? = some (.pointer (some ⟨b2, 0, none⟩))) (t3 : tmps[5]? = some (.pointer (some ⟨b3, 0, none⟩)))
    (c2:W.cell? ⟨b2,0,none⟩=some x) (c2':W.cell? ⟨b2,1,none⟩=some y) (c3:W.cell? ⟨b3,0,none⟩=some z) :
    (results Tryz.f134 tmps).run Tryz.prog W=.ok (.tuple #[.agg #[x,y],z]) W:=by
 simp [results,Tryz.results134,go_sem,t2,t3,c2,c2',c3]
theorem cyc_ret (B : Nat) {T : TM} {L : Ltr} {bL : Nat} {w W : World} {pre : List T.toTr.Id} (h : CycI T L bL w pre W) (p q : Int) (pre' : List T.toTr.Id) (hbad : ∃ x : T.toTr.Id, Path (T.toTr.succ L) x.1 x.1) :
    KeepsFrom B W (((W.setCell ⟨w.heap.size+1+1,0,none⟩ (.int .i64 p)).setCell ⟨w.heap.size+1+1,1,none⟩ (.int .i64 q)).setCell ⟨w.heap.size+1+1+1,0,none⟩ (.bool true))∧
    CycX T L w pre' (((W.setCell ⟨w.heap.size+1+1,0,none⟩ (.int .i64 p)).setCell ⟨w.heap.size+1+1,1,none⟩ (.int .i64 q)).setCell ⟨w.heap.size+1+1+1,0,none⟩ (.bool true)):=by
 refine ⟨((keeps_set _ _ _ _).trans (keeps_set _ _ _ _)).trans (keeps_set _ _ _ _),⟨p,q,?_,?_⟩,?_,hbad⟩
 ·have a2:=(h.h2.set 0 (.int .i64 p)).set 1 (.int .i64 q)
  simp only [List.setIfInBounds_toArray,List.set_cons_zero,List.set_cons_succ] at a2
  exact a2.other _ _ (by dsimp only;omega)
 ·have a1:=(h.h3.other ⟨w.heap.size+1+1,0,none⟩ (.int .i64 p) (by dsimp only;omega)).other ⟨w.heap.size+1+1,1,none⟩ (.int .i64 q) (by dsimp only;omega)
  have a2:=a1.set 0 (.bool true)
  simp only [List.setIfInBounds_toArray,List.set_cons_zero] at a2
  exact a2
 ·exact ((h.bl.setCell (by dsimp only;omega) _).setCell (by dsimp only;omega) _).setCell (by dsimp only;omega) _
theorem cyc_done {T : TM} {L : Ltr} {bL : Nat} {w W : World} (h : CycI T L bL w T.toTr.evs W) (D : Nat) (hD : w.heap.size + 5 ≤ D) :
    ∀ W9,W9=(((W.setCell ⟨w.heap.size+1+1,0,none⟩ (.int .i64 0)).setCell ⟨w.heap.size+1+1,1,none⟩ (.int .i64 0)).setCell ⟨w.heap.size+1+1+1,0,none⟩ (.bool false)).putObj D (.deferred none)→(W.heap[D]?=some (.deferred (some [])))→
    Hold W9 (w.heap.size+1+1) #[.int .i64 0,.int .i64 0]∧Hold W9 (w.heap.size+1+1+1) #[.bool false]∧CycPost T L w (.returned (.tuple #[.agg #[.int .i64 0,.int .i64 0],.bool false])) W9:=by
 rintro W9 rfl hK
 refine ⟨?_,?_,?_,0,0,false,rfl,⟨fun e=>absurd e (by decide),fun ⟨x,hx⟩=>absurd hx (h.ok x ?_)⟩⟩
 ·have a2:=(h.h2.set 0 (.int .i64 0)).set 1 (.int .i64 0)
  simp only [List.setIfInBounds_toArray,List.set_cons_zero,List.set_cons_succ] at a2
  exact (a2.other _ _ (by dsimp only;omega)).putObj _ _ (by omega)
 ·have a1:=(h.h3.other ⟨w.heap.size+1+1,0,none⟩ (.int .i64 0) (by dsimp only;omega)).other ⟨w.heap.size+1+1,1,none⟩ (.int .i64 0) (by dsimp only;omega)
  have a2:=a1.set 0 (.bool false)
  simp only [List.setIfInBounds_toArray,List.set_cons_zero] at a2
  exact a2.putObj _ _ (by omega)
 ·have a1:=((h.bl.setCell (p:=⟨w.heap.size+1+1,0,none⟩) (by dsimp only;omega) (.int .i64 0)).setCell (p:=⟨w.heap.size+1+1,1,none⟩) (by dsimp only;omega) (.int .i64 0)).setCell (p:=⟨w.heap.size+1+1+1,0,none⟩) (by dsimp only;omega) (.bool false)
  refine a1.trans (belowK_b (w:=w) (Nat.le_refl _) _ D (.deferred (some [])) _ (by omega) ?_ rfl rfl)
  rw [Below.heap_setCell _ _ _ _ (by dsimp only;omega),Below.heap_setCell _ _ _ _ (by dsimp only;omega),Below.heap_setCell _ _ _ _ (by dsimp only;omega)]
  exact hK
 ·have:=evs_mem (T:=T.toTr) (x:=x.1) x.2
  obtain ⟨y,hy,e⟩:=List.mem_map.1 this
  rw [show x=y from Subtype.ext e.symm];exact hy
set_option maxHeartbeats 8000000 in
theorem cyclic_any (w : World) (T : TM) (hT : T.At w) (hE : ∀ k i, k < T.n → i < T.en k → T.EvOk k i) (L : Ltr) (bL : Nat) (hL : L.At w bL) (hLo : L.Ok T.toTr) (hcnt : T.toTr.evs.length ≤ 1000000) :
    Calls Tryz.prog 134 #[T.val,.pointer (some ⟨bL,0,none⟩)] w (CycPost T L w):=by
 refine (callsIn_wide (n:=4)).1 ?_
 have HT:=Lib.hid hT
 have HE:=Lib.hid hE
 have HL:=Lib.hid hL
 have HLo:=Lib.hid hLo
 clear hT hE hL hLo
 obtain ⟨i0,hi0,hz0,hz1,hz2⟩:=info_parts infoEv
 refine callsIn_of_wp_marks Tryz.func134 rfl trivial ?_ rfl
 simp only [Tryz.ntmps134,List.size_toArray,List.length_cons,List.length_nil,Nat.reduceAdd,Nat.reduceSub,Array.replicate_succ,Array.replicate_zero,List.push_toArray,List.append_toArray,List.nil_append,List.cons_append]
 gi_upto_region 1 with fail
 refine boxed4 (w:=w) (G:=fun x=>Code.wpIn _ _ _ _ _ _ x) ?_
 intro w1 hx1 hs1 ⟨l0,c0,_,k0⟩ ⟨l1,c1,_,k1⟩ ⟨l2,c2,_,k2⟩ ⟨l3,c3,_,k3⟩
 have hx11:Ext w1 w1:=Ext.refl _
 have hev:=events_any T w1
 rw [hs1] at hev
 have HS:=Lib.hid hs1
 clear hs1 c1 c2 c3
 gi_wp2_with (refine ⟨trivial,?_⟩;gi_at_call 131;refine (CallsIn.mono (callsIn_wide.2 hev) ?_);rintro e w' ⟨rfl,rfl⟩)
 clear hev hx11 c0
 obtain ⟨w2,hw2⟩:∃ w2,w2=w1.alloc (.cells #[.slice T.a T.n T.cap] 24):=⟨_,rfl⟩
 rw [←hw2]
 have hx12:Ext w1 w2:=by rw [hw2];exact Ext.alloc _ _
 have hbn:w2.cell? ⟨w.heap.size+1+1+1+1,0,none⟩=some (.slice T.a T.n T.cap):=by rw [hw2,←HS.out];simp
 have hsz:w2.heap.size=w.heap.size+5:=by rw [hw2];simp;have:=HS.out;omega
 clear hw2 HS
 have HSZ:=Lib.hid hsz
 clear hsz
 refine wpIn_rangeFunc_ownH rfl (by omega) (gf:=180) (lb:=#[.pointer (some ⟨w.heap.size+1+1+1+1,0,none⟩)]) rfl trivial (enters_of Tryz.func180 (by kernel_rfl) rfl)
  (events_stops 3 (by omega) (w.heap.size+1+1+1+1) T w w2 HT.out (hx1.trans hx12) hbn) belowK_t (belowK_b (by have:=HSZ.out;omega)) (Below.refl _ _) (fun _=>rfl)
  (CycI T L bL w) (fun c pre W=>c=.ret∧CycX T L w pre W) (CycI.own T L bL w w2 (by have:=HSZ.out;omega)) (fun c=>OwnFrom.and (ownFrom_pure _ (fun _=>c=.ret)) (CycX.own T L w w2 (by have:=HSZ.out;omega)))
  ⟨Hold.ext k0 hx12,Hold.ext k1 hx12,Hold.ext k2 hx12,Hold.ext k3 hx12,hx1.trans hx12,fun x h=>by cases h⟩
  (fun x a' W=>∃ bx,CycA T w x bx W∧a'=cycFrame T w bL x bx) (fun x a'=>CycA.own T w w2 bL x a') ?assign ?body ?done ?stop
 case assign=>
  rintro l pre x W K hI hK
  gi_wp2
  have hx:Ext W (W.alloc (.cells #[.int .i64 x.1.1,.int .i64 (x.1.2+1)] 70)):=Ext.alloc _ _
  exact hK _ _ (hx.keepsFrom _) (Below.mono hx hI.bl.size) (hI.ext hx) ⟨W.heap.size,⟨Hold.new _ _ _,hI.h3.lt⟩,rfl⟩
 case body=>
  rintro l pre x a' W hl ⟨r,hr⟩ hI ⟨bx,hA,rfl⟩ hlt
  obtain ⟨⟨k,i⟩,hk,hi⟩:=x
  have HI:=Lib.hid hI
  obtain ⟨h0,h1,h2,h3,bl,ok⟩:=hI
  obtain ⟨x0,d0,f0,_⟩:=h0.box
  obtain ⟨x1,d1,f1,_⟩:=h1.box
  obtain ⟨x2,d2,f2,_⟩:=h2.box
  obtain ⟨x3,d3,f3,_⟩:=h3.box
  obtain ⟨xx,dx,fx,_⟩:=hA.hx.box
  have hbx:=hA.lt
  have hWW:Ext W W:=Ext.refl _
  dsimp only at d0 d1 d2 d3 dx
  clear l0 l1 l2 l3 k0 k1 k2 k3 hbn h0 h1 h2 h3 ok hA
  have hmm:=@run_makeMap Tryz.prog
  gi_wp2
  obtain ⟨w3,hw3⟩:∃ w3,w3=(W.alloc (.map #[] 0)).alloc (.cells #[.int .i64 k,.int .i64 (i+1)] 70):=⟨_,rfl⟩
  rw [←hw3]
  have hS0:CycS (T.toTr.succ L) T.toTr.V (k,i) W W.heap.size [] [(k,i)] (k,i) [] (.slice (some ⟨W.heap.size+1,0,none⟩) 1 1) w3:=by
   subst hw3
   refine ⟨(Ext.alloc _ _).alloc' _,⟨rfl,.inr ⟨W.heap.size+1,1,#[.int .i64 k,.int .i64 (i+1)],rfl,by omega,?_,by simp,by unfold maxLen;omega,rfl,rfl⟩⟩,(SetAt.new W).ext (Ext.alloc _ _),Nat.le_refl _,Dfs.start ⟨hk,hi⟩⟩
   show ((W.heap.push _).push _)[W.heap.size+1]?=_
   rw [Array.getElem?_push,if_pos (by simp)]
  clear hw3
  gi_loopg [8] (2*T.toTr.evs.length+1) (fun gg v wr=>∃ (S rest:List NN) (x:NN),CycS (T.toTr.succ L) T.toTr.V (k,i) W W.heap.size S rest x [] v wr∧2*(T.toTr.evs.length - S.length)+rest.length≤gg∧gg≤2*T.toTr.evs.length+1)
  case atStart=>exact ⟨[],[(k,i)],(k,i),hS0,by simp,Nat.le_refl _⟩
  case round=>
   obtain ⟨S,rest,x,hS,hgg,hgm⟩:=hrel
   rcases List.eq_nil_or_concat rest with rfl | ⟨rest',⟨yk,yi⟩,hrest⟩
   ·have hR := Lib.hid (show CycI T L bL w (pre ++ [⟨(k, i), hk, hi⟩]) wr from ⟨(HI.out.ext hS.ext).h0, (HI.out.ext hS.ext).h1, (HI.out.ext hS.ext).h2, (HI.out.ext hS.ext).h3, (HI.out.ext hS.ext).bl, fun z hz => by
      rcases List.mem_append.1 hz with hz | hz
      ·exact HI.out.ok z hz
      ·simp at hz;subst hz;exact hS.dfs.none⟩)
    have hx:=hS.ext
    obtain ⟨a,cap,g,hv,-⟩:=hS.own.read
    subst hv
    clear hS
    gi_wp2
    exact ⟨hx.keepsFrom _,Below.mono hx bl.size,hR.out⟩
   ·rw [List.concat_eq_append] at hrest
    subst hrest
    obtain ⟨a,cap,g,hv,hcap,ha,hglt,r0,r1⟩:=hS.own.read
    rw [show (((rest'++[(yk,yi)]).map evI).length)=rest'.length+1 by simp] at hv hcap
    have ha:=ha (by simp)
    subst ha
    subst hv
    have hwr:=Ext.refl wr
    have r0:=fun w' (h:Ext wr w')=>r0 w' h rest'.length (by simp)
    have r1:=fun w' (h:Ext wr w')=>r1 w' h rest'.length (by simp)
    simp only [List.map_append,List.map_cons,List.map_nil,List.length_map,List.getElem_append_right,Nat.le_refl,Nat.sub_self,List.getElem_cons_zero,evI] at r0 r1
    have hglt:=hglt (by simp)
    have hcap0:¬cap=0:=by omega
    have hcap1:(rest'.length:Int)≤(cap:Int):=by omega
    have hpop:=EvOwn.pop (l:=rest'.map evI) (x:=evI (yk,yi)) (by simpa using hS.own)
    have hcm:rest'.length≤9223372036854775806:=by have:=hS.own.len;simp [maxLen] at this;omega
    have hD:=hS.dfs.pop
    have hvy:T.toTr.V (yk,yi):=by
     rcases hD.cur with e | e
     ·rw [e];exact ⟨hk,hi⟩
     ·exact hD.valid _ e
    gi_upto_region 7 with fail
    refine boxed1 (w:=wr) (G:=fun x=>Code.wpIn _ _ _ _ _ _ x) ?_
    intro w4 hx4 hs4 ⟨l4,c4,_,_⟩
    clear hs4
    rw [List.length_map] at hpop
    have hS4:CycS (T.toTr.succ L) T.toTr.V (k,i) W W.heap.size S rest' (yk,yi) (T.toTr.succ L (yk,yi)) (.slice (some ⟨g,0,none⟩) rest'.length cap) w4:=
     ⟨hS.ext.trans hx4,hpop.kept hx4,hS.set.ext hx4,Nat.le_refl _,hD⟩
    have hW4:=hS4.ext
    have hw4:Ext w w4:=bl.trans (Below.mono hW4 bl.size)
    have hx44:Ext w4 w4:=Ext.refl _
    have hAf:=after_any w4 T (HT.out.ext hw4) L bL (HL.out.ext hw4) yk yi hvy.1 hvy.2 (HE.out yk yi hvy.1 hvy.2)
    rw [show T.toTr.aft L yk yi=(T.toTr.succ L (yk,yi)).map evI from aft_eq (x:=(yk,yi)) HLo.out (HE.out yk yi hvy.1 hvy.2).1] at hAf
    have hval:=succ_valid (x:=(yk,yi)) HLo.out hvy (HE.out yk yi hvy.1 hvy.2).1
    generalize T.toTr.succ L (yk,yi)=l2 at hAf hS4 hval
    have HS4:=Lib.hid hS4
    have HV:=Lib.hid hval
    clear hS4 hD hS hpop hval
    gi_wp2_with (refine ⟨trivial,?_⟩;gi_at_call 185;refine (CallsIn.mono (CallsIn.inRound l (callsIn_wide.2 hAf)) ?_);rintro e w5 ⟨v2,rfl,hv2,hx5⟩;obtain ⟨a2,cap2,g2,hv2e,hc2,ha2,hg2,s0,s1⟩:=hv2.read;clear hAf;rw [List.length_map] at hv2e;subst hv2e)
    have HV2:=Lib.hid hv2
    have hap5:∀ gg,(Value.slice (some ⟨g,0,none⟩) rest'.length cap).ownBlock=some gg→(Value.slice a2 l2.length cap2).ownBlock≠some gg:=by
     intro gg e e'
     have h1:=HS4.out.own.lt gg e
     have h2:=hv2.block gg e'
     omega
    have HAP:=Lib.hid hap5
    clear hap5 hv2 s0 s1 hc2 hg2
    have hS5:=HS4.out.kept hx5
    have hgN:=hgg
    simp only [List.length_append,List.length_cons,List.length_nil] at hgN
    have HGN:=Lib.hid hgN
    clear hgN hgg hx44 hW4 hw4 l4 c4 hwr r0 r1 hglt hvy
    obtain ⟨wo,rfl⟩:∃ wo:World,wo=wr:=⟨_,rfl⟩
    gi_loopw [8, 38] (fun v j wr => ∃ (S' rest2 : List NN) (jn : Nat), jn ≤ l2.length ∧ j = .int .i64 jn ∧ CycS (T.toTr.succ L) T.toTr.V (k, i) W W.heap.size S' rest2 (yk, yi) (l2.drop jn) v wr ∧
        EvOwn wr w4.heap.size (.slice a2 l2.length cap2) (l2.map evI)∧(∀ gg,v.ownBlock=some gg→(Value.slice a2 l2.length cap2).ownBlock≠some gg)∧2*(T.toTr.evs.length - S'.length)+rest2.length≤2*(T.toTr.evs.length - S.length)+rest'.length)
     (fun _ j _=>l2.length - (intOf j).toNat)
    case atStart=>exact ⟨S,rest',0,Nat.zero_le _,rfl,hS5,HV2.out,HAP.out,Nat.le_refl _⟩
    case round=>
     obtain ⟨S',rest2,jn,hjn,rfl,hS,ho2,hap,hN⟩:=hrel
     clear hS5 HS4 HV2 HAP
     by_cases hlj:jn<l2.length
     ·obtain ⟨a3,cap3,g3,hv3,-,ha3,hg3,t0,t1⟩:=ho2.read
      rw [List.length_map] at hv3
      simp only [Value.slice.injEq,true_and] at hv3
      obtain ⟨rfl,rfl⟩:=hv3
      obtain rfl:=ha3 (by simp;omega)
      have hg3:=hg3 (by simp;omega)
      have hdrop:=List.drop_eq_getElem_cons hlj
      have hmem:l2[jn]∈l2:=List.getElem_mem hlj
      obtain ⟨⟨zk,zi⟩,hz⟩:∃ z,z=l2[jn]:=⟨_,rfl⟩
      have s0:∀ w',Ext wr w'→w'.cell? ⟨g3,jn*2,none⟩=some (.int .i64 zk):=fun w' h=>by
       have:=t0 w' h jn (by simpa using hlj)
       rw [this,List.getElem_map,←hz]
      have s1:∀ w',Ext wr w'→w'.cell? ⟨g3,jn*2+1,none⟩=some (.int .i64 (zi+1)):=fun w' h=>by
       have:=t1 w' h jn (by simpa using hlj)
       rw [this,List.getElem_map,←hz]
      rw [←hz] at hdrop hmem
      clear hz t0 t1
      rw [hdrop] at hS
      have hvz:=HV.out _ hmem
      have hwr:Ext wr wr:=Ext.refl _
      have hlj':(jn:Int)<(l2.length:Int):=by omega
      have hll:l2.length≤9223372036854775807:=by have:=ho2.len;simp [maxLen] at this;omega
      have HS:=Lib.hid hS
      have HO:=Lib.hid ho2
      have HP:=Lib.hid hap
      clear hS ho2 hap hdrop hmem
      gi_upto_region 11 with fail
      refine boxed1 (w:=wr) (G:=fun x=>Code.wpIn _ _ _ _ _ _ x) ?_
      intro w6 hx6 hs6 ⟨l6,c6,_,k6⟩
      clear hs6
      have hbmr:W.heap.size<wr.heap.size:=HS.out.set.lt
      have hx66:Ext w6 w6:=Ext.refl _
      have hS6:=HS.out.kept hx6
      have hW6:=hS6.ext
      have hO6:=HO.out.kept hx6
      have HS6:=Lib.hid hS6
      have HO6:=Lib.hid hO6
      clear hS6 hO6 HS HO
      have hlk:=run_lookup_ev HS6.out.set (evI (zk,zi))
      by_cases hzid:zk=k∧zi=i
      ·obtain ⟨rfl,rfl⟩:=hzid
       clear hlk
       have hbad:=Lib.hid HS6.out.dfs.hit
       have hr:=Lib.hid (cyc_ret w2.heap.size (HI.out.ext hW6) zk (zi+1) (pre++[⟨(zk,zi),hk,hi⟩]) ⟨⟨(zk,zi),hk,hi⟩,hbad.out⟩)
       have hkf:=Lib.hid (hW6.keepsFrom w2.heap.size)
       gi_wp2
       exact ⟨hkf.out.trans hr.out.1,rfl,hr.out.2⟩
      ·have hzs:(zk,zi)≠(k,i):=fun h=>hzid (Prod.mk.inj h)
       have hzid':¬((zk:Int)=(k:Int)∧(zi:Int)+1=(i:Int)+1):=by omega
       by_cases hin:(zk,zi)∈S'
       ·rw [decide_eq_true (evI_mem.2 hin)] at hlk
        have HK:=Lib.hid (HS6.out.skip hin)
        clear HS6
        by_cases ez:zk=k
        ·subst ez
         have ez':¬(zi:Int)=(i:Int):=by omega
         gi_wp2
         go_roundw
         case rel=>exact ⟨S',rest2,jn+1,by omega,by go_num,HK.out,HO6.out,HP.out,hN⟩
         case measure=>simp [intOf];omega
        ·have ez':¬(zk:Int)=(k:Int):=by omega
         gi_wp2
         go_roundw
         case rel=>exact ⟨S',rest2,jn+1,by omega,by go_num,HK.out,HO6.out,HP.out,hN⟩
         case measure=>simp [intOf];omega
       ·rw [decide_eq_false (fun h=>hin (evI_mem.1 h))] at hlk
        obtain ⟨o,hup,hset⟩:=run_update_ev HS6.out.set (evI (zk,zi)) (fun h=>hin (evI_mem.1 h))
        have hown6:=HS6.out.own
        have hne6:=hown6.not_map HS6.out.set
        have hrl:rest2.length+1≤8000000000000:=by have:=HGN.out;omega
        have hsz7:(w6.putObj W.heap.size o).heap.size=w6.heap.size:=by simp
        have hown7:EvOwn (w6.putObj W.heap.size o) W.heap.size u8 (rest2.map evI):=hown6.same (fun g e=>World.putObj_heap_other (fun e'=>hne6 (e'▸e)))
        have hW7:W.heap.size≤(w6.putObj W.heap.size o).heap.size:=by rw [hsz7];exact hW6.le
        have k7:=Hold.putObj (W:=w6) k6 W.heap.size o (by omega)
        have HPU:=Lib.hid (fun v' w'=>CycS.push (v':=v') (w':=w') (o:=o) (c:=#[.int .i64 zk,.int .i64 (zi+1)]) (t:=70) HS6.out HO6.out HP.out hin hzs hvz hset)
        generalize w6.putObj W.heap.size o=w7 at hup hown7 hW7 k7 HPU
        obtain ⟨l7,c7,_,_⟩:=k7.box
        have hx77:Ext w7 w7:=Ext.refl _
        have HO7:=Lib.hid hown7
        clear hset hsz7 hne6 hown6 hown7 k7 HS6 HO6 HP
        by_cases ez:zk=k
        ·subst ez
         have ez':¬(zi:Int)=(i:Int):=by omega
         gi_wp2_with (gi_at_builtin;refine wpListIn_append_own_at _ rfl _ _ 68 rfl W.heap.size 70 i0 (.agg #[.int .i64 0,.int .i64 0]) 2 16 Tryz.underlying68 hi0 hz0 hz1 hz2 rfl (by decide) u8 (rest2.map evI).length (evCells (rest2.map evI)) rfl (by exact HO7.out.kept (Ext.alloc _ _)) ⟨w7.heap.size,0,none⟩ 1 1 [.int .i64 zk,.int .i64 (zi+1)] rfl rfl ?_ ?_ ?_ ?_ ?_ ?_)
         case refine_2=>exact ⟨rfl,rfl⟩
         case refine_3=>unfold maxLen;omega
         case refine_4=>omega
         case refine_5=>omega
         rintro v8 w8 hown8 hg8 - hat8
         have P8:=HPU.out v8 w8 (by simpa using hown8) hg8 (by simpa using hat8)
         have hl8:S'.length+1≤T.toTr.evs.length:=by simpa using evs_count P8.1.dfs.nodup P8.1.dfs.valid
         have HP8:=Lib.hid P8
         clear P8 hown8 hg8 hat8 HPU
         gi_wp2
         go_roundw
         case rel=>exact ⟨S'++[(zk,zi)],rest2++[(zk,zi)],jn+1,by omega,by go_num,HP8.out.1,HP8.out.2.1,HP8.out.2.2,by simp only [List.length_append,List.length_cons,List.length_nil];omega⟩
         case measure=>simp [intOf];omega
        ·have ez':¬(zk:Int)=(k:Int):=by omega
         gi_wp2_with (gi_at_builtin;refine wpListIn_append_own_at _ rfl _ _ 68 rfl W.heap.size 70 i0 (.agg #[.int .i64 0,.int .i64 0]) 2 16 Tryz.underlying68 hi0 hz0 hz1 hz2 rfl (by decide) u8 (rest2.map evI).length (evCells (rest2.map evI)) rfl (by exact HO7.out.kept (Ext.alloc _ _)) ⟨w7.heap.size,0,none⟩ 1 1 [.int .i64 zk,.int .i64 (zi+1)] rfl rfl ?_ ?_ ?_ ?_ ?_ ?_)
         case refine_2=>exact ⟨rfl,rfl⟩
         case refine_3=>unfold maxLen;omega
         case refine_4=>omega
         case refine_5=>omega
         rintro v8 w8 hown8 hg8 - hat8
         have P8:=HPU.out v8 w8 (by simpa using hown8) hg8 (by simpa using hat8)
         have hl8:S'.length+1≤T.toTr.evs.length:=by simpa using evs_count P8.1.dfs.nodup P8.1.dfs.valid
         have HP8:=Lib.hid P8
         clear P8 hown8 hg8 hat8 HPU
         gi_wp2
         go_roundw
         case rel=>exact ⟨S'++[(zk,zi)],rest2++[(zk,zi)],jn+1,by omega,by go_num,HP8.out.1,HP8.out.2.1,HP8.out.2.2,by simp only [List.length_append,List.length_cons,List.length_nil];omega⟩
         case measure=>simp [intOf];omega
     ·gi_wp2
      gi_roundg (2*(T.toTr.evs.length - S'.length)+rest2.length)
      case rel=>exact ⟨S',rest2,(yk,yi),by rw [List.drop_of_length_le (by omega)] at hS;exact hS,Nat.le_refl _,by have:=HGN.out;omega⟩
      case measure=>have:=HGN.out;omega
 case done=>
  rintro D xs W hD rfl hI hK
  obtain ⟨h0,h1,h2,h3,bl,ok⟩:=hI
  obtain ⟨_,d2,f2,_⟩:=h2.box
  obtain ⟨_,d3,f3,_⟩:=h3.box
  have hWW:Ext W W:=Ext.refl _
  clear l0 l1 l2 l3 k0 k1 k2 k3
  have hD':w.heap.size+5≤D:=by have:=HSZ.out;omega
  have HI:=Lib.hid (cyc_done (CycI.mk h0 h1 h2 h3 bl ok) D hD' _ rfl hK)
  gi_wp2
  refine ⟨by simp,.inl ⟨_,_,rfl,run_takeDeferred (ds:=[]) ?_,?_⟩⟩
  ·rw [Below.heap_setCell _ _ _ _ (by dsimp only;omega),Below.heap_setCell _ _ _ _ (by dsimp only;omega),Below.heap_setCell _ _ _ _ (by dsimp only;omega)]
   exact hK
  ·obtain ⟨g2,g3,g4⟩:=HI.out
   exact ⟨_,cyc_results _ _ _ _ _ _ _ rfl rfl (g2.cell0 0) (g2.cell0 1) (g3.cell0 0),g4⟩
 case stop=>
  rintro D c pre W hD hpre hX hK
  obtain ⟨rfl,⟨p,q,h2,h3⟩,bl,bad⟩:=hX
  have hD':w.heap.size+5≤D:=by have:=HSZ.out;omega
  have g2:=h2.putObj D (.deferred none) (by omega)
  have g3:=h3.putObj D (.deferred none) (by omega)
  have hbl:Ext w (W.putObj D (.deferred none)):=bl.trans (belowK_b (w:=w) (Nat.le_refl _) W D (.deferred (some [])) _ (by omega) hK rfl rfl)
  clear l0 l1 l2 l3 k0 k1 k2 k3 h2 h3 hpre
  gi_wp2
  refine ⟨by simp,.inl ⟨_,_,rfl,run_takeDeferred (ds:=[]) hK,?_⟩⟩
  exact ⟨_,cyc_results _ _ _ _ _ _ _ rfl rfl (g2.cell0 0) (g2.cell0 1) (g3.cell0 0),hbl,p,q,true,rfl,⟨fun _=>bad,fun _=>rfl⟩⟩
end Go.Proofs.YtlfdfkbmollaaaaGreatDoor

namespace Go.Proofs.YtlfdfkbmollaaaaGreatDoor
open Go.RowKit
theorem path_rank {R:NN→List NN} {V:NN→Prop} (f:NN→Nat) (hV:∀ x y,V x→y∈R x→V y∧f x<f y) {x y:NN} (hx:V x) (h:Path R x y):V y∧f x<f y:=by
 obtain ⟨n,h⟩:=h
 induction n generalizing x with
 | zero => exact hV x y hx h
 | succ n ih =>
  obtain ⟨z,hz,h⟩:=h
  have h1:=hV x z hx hz
  have h2:=ih h1.1 h
  exact ⟨h2.1,by omega⟩
end Go.Proofs.YtlfdfkbmollaaaaGreatDoor
