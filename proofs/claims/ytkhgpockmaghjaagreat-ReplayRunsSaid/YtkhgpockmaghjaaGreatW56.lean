/- Contracts and laws in plain Lean for RApp: group W56. -/
import Derived.Test.YtkhgpockmaghjaaGreatW54
import Derived.Test.YtkhgpockmaghjaaGreatW46
import Derived.Test.YtkhgpockmaghjaaGreatW36
set_option maxRecDepth 100000
namespace Go.Proofs.YtkhgpockmaghjaaGreat
open Go.RowKit Go.Shelf
def Tr.Free (T:Tr) (m:Nat):Prop:=∀ x:T.Id,¬T.Hit 2 m x
open Classical in
noncomputable def Tr.freeL (T:Tr):Nat→List Nat
 | 0 => []
 | m+1 => T.freeL m++if T.Free m then [m] else []
theorem freeL_yes {T:Tr} {m:Nat} (h:T.Free m):T.freeL (m+1)=T.freeL m++[m]:=by simp [Tr.freeL,h]
theorem freeL_no {T:Tr} {m:Nat} (h:¬T.Free m):T.freeL (m+1)=T.freeL m:=by simp [Tr.freeL,h]
theorem freeL_len (T:Tr):∀ m,(T.freeL m).length≤m
 | 0 => Nat.le_refl _
 | m+1 => by
  have h:=freeL_len T m
  unfold Tr.freeL
  rw [List.length_append]
  split <;> simp <;> omega
structure FrI (T:Tr) (w1:World) (m:Nat) (v:Value) (wr:World):Prop where
 x:Ext w1 wr
 q:Que wr w1.heap.size 1 v (T.freeL m).length (intCells (natInts (T.freeL m)))
theorem FrI.ext {T:Tr} {w1:World} {m:Nat} {v:Value} {wr w':World} (h:FrI T w1 m v wr) (x:Ext wr w'):FrI T w1 m v w':=⟨h.x.trans x,h.q.ext x⟩
set_option maxHeartbeats 1000000 in
theorem free_any (w : World) (T : TM) (hT : T.At w) (hV : T.toTr.Valid) :
    Calls Tryz.prog 51 #[T.val] w fun e w'=>Ext w w'∧∃ v,e=.returned v∧Que w' w.heap.size 1 v (T.toTr.freeL 200).length (intCells (natInts (T.toTr.freeL 200))):=by
 obtain ⟨j0,hj0,hy0,hy1,hy2⟩:=info_parts infoInt
 have HSN:=Lib.hid (fun W (h:Ext w W) (m:Nat)=>sender_any W T (hT.ext h) hV (m:Int))
 obtain ⟨ta,hta⟩:∃ z,z=T.a:=⟨_,rfl⟩
 simp only [TM.val,←hta] at HSN ⊢
 clear hT hV hta
 go_enter Tryz.func51,Tryz.ntmps51
 go_upto_region 1 with fail
 refine boxed1 (w:=w) (G:=fun x=>Code.wp _ _ _ _ x) ?_
 intro w1 hx1 hs1 ⟨l0,c0,_,_⟩
 have hx11:Ext w1 w1:=Ext.refl _
 clear hs1
 have HI0:=Lib.hid (show FrI T.toTr w1 0 (.slice none 0 0) w1 from ⟨hx11,Que.nil _ _ _⟩)
 go_wp2_with fail
 go_loopg [3,7] 200 (fun gg v3 v7 wr=>∃ m:Nat,m≤200∧gg=200 - m∧v7=.int .i64 m∧FrI T.toTr w1 m v3 wr)
 case atStart=>exact ⟨0,by omega,rfl,rfl,HI0.out⟩
 case round=>
  obtain ⟨m,hm,rfl,rfl,hI⟩:=hrel
  obtain ⟨a3,c3,rfl⟩:=hI.q.slice
  have hx1r:=hI.x
  have hxwr:=hx1.trans hx1r
  obtain ⟨ln,hln⟩:∃ z,z=(T.toTr.freeL m).length:=⟨_,rfl⟩
  have hlm:ln≤200:=by rw [hln];have:=freeL_len T.toTr m;omega
  have HLN:=Lib.hid hln
  rw [←hln] at hI ⊢
  have HI:=Lib.hid hI
  clear hI hln HI0
  by_cases hlt:m<200
  case neg=>
   obtain rfl:m=200:=by omega
   have hd:¬((200:Nat):Int)<200:=by omega
   go_wp2_with fail
   go_ret
   exact ⟨hxwr,_,rfl,HI.out.q.mono hx1.le⟩
  have hlt':(m:Int)<200:=by omega
  have hsn:=HSN.out wr hxwr m
  go_upto_region 6 with (go_at_call 94;refine hsn.mono ?_;rintro e w4 ⟨hx4,p,q,b,rfl,hf⟩)
  refine boxed1 (w:=w4) (G:=fun x=>Code.wp _ _ _ _ x) ?_
  intro w5 hx5 hs5 ⟨l5,c5,_,_⟩
  have HF:=Lib.hid hf
  have HI5:=Lib.hid (HI.out.ext (hx4.trans hx5))
  clear hs5 hf hsn
  cases b with
  | true =>
   have HNF:=Lib.hid (show ¬T.toTr.Free m from fun h=>by
    rcases HF.out with ⟨x,hx,_⟩ | ⟨_,_,_,hb⟩
    ·exact h x hx
    ·cases hb)
   have HST:=Lib.hid (show FrI T.toTr w1 (m+1) (.slice a3 ln c3) w5 from ⟨HI5.out.x,by rw [freeL_no HNF.out];exact HI5.out.q⟩)
   go_wp2_with fail
   go_roundg (200 - (m+1))
   case rel=>exact ⟨m+1,by omega,rfl,by go_num,HST.out⟩
   case measure=>omega
  | false =>
   have HNF:=Lib.hid (freeL_yes (T:=T.toTr) (m:=m) (by
    rcases HF.out with ⟨x,_,_,_,hb⟩ | ⟨hx,_⟩
    ·cases hb
    ·exact hx))
   have hx55:Ext w5 w5:=Ext.refl _
   go_upto_region 8 with (at_builtin;refine wpList_append_que _ rfl _ _ 39 39 rfl (base:=w1.heap.size) (e:=3) (size:=1) j0 (.int .i64 0) 8 Tryz.underlying39 hj0 hy0 hy1 hy2 rfl rfl (v:=.slice a3 ln c3) (n:=ln) (xs:=intCells (natInts (T.toTr.freeL m))) (by have h1:=(HI5.out.ext (Ext.alloc w5 (.cells #[.int .i64 (m:Int)] 3))).q;rw [←HLN.out] at h1;exact h1) (by rw [World.size_alloc];have:=HI5.out.x.le;omega) (.slice (some ⟨w5.heap.size,0,none⟩) 1 1) 1 [.int .i64 (m:Int)] rfl (by exact Src.ofSlice _ Tryz.underlying39 ⟨w5.heap.size,0,none⟩ 1 1 _ rfl (news_ok w5 _ _) (one_int _)) (by unfold maxLen;omega) (by omega) ?_;rintro v9 w9 hq9 hg9 -;have H9:=Lib.hid (show FrI T.toTr w1 (m+1) v9 w9 from ⟨Below.grown ((HI5.out.x).trans (Ext.alloc w5 (.cells #[.int .i64 (m:Int)] 3))) hg9 (by rw [World.size_alloc];have:=HI5.out.x.le;omega) (fun g e=>by have h1:=HI5.out.q.block g e;omega),by rw [HNF.out,natInts_snoc,List.length_append,←HLN.out];exact hq9⟩);clear hq9 hg9)
   go_wp2_with fail
   go_roundg (200 - (m+1))
   case rel=>exact ⟨m+1,by omega,rfl,by go_num,H9.out⟩
   case measure=>omega
end Go.Proofs.YtkhgpockmaghjaaGreat

namespace Go.Proofs.YtkhgpockmaghjaaGreat
open Go.RowKit Go.Shelf
theorem step_append_que {P : Program} (w : World) {ops : Array Oper} {o : Oper} {a : Act} {K : Act → World → Prop} {Q : Exit → Act → World → Prop} {E : Prop} (hgd : o.guard = none) (s x : Operand) (t tx : TypeId)
    (ho:o.op=.call { callee:=.builtin .append,args:=#[s,x],argTypes:=#[t,tx] })
    {base:Nat} {e:TypeId} {size:Nat} (i:TypeInfo) (z:Value) (bytes:Nat) (ht:P.underlying t=some (.slice e)) (hi:P.info? e=some i) (hz:i.zero=some z) (hsize:i.size=size) (hby:i.bytes=bytes) (hzs:z.cells.size=size)
    {v:Value} {n:Nat} {xs:List Value} (hv:a.eval s=v) (h:Que w base size v n xs) (hb:base≤w.heap.size)
    (xv:Value) (m:Nat) (news:List Value) (hx:a.eval x=xv) (hs:Src P size tx xv m news w) (h63:n+m≤maxLen) (hbytes:(n+m)*bytes≤140737488355328)
    (hK:∀ v' w',Que w' base size v' (n+m) (xs++news)→w.grownBy w' v.ownBlock→(v'.ownBlock=v.ownBlock∨v'.ownBlock=some w.heap.size)→K (a.put o.dst v') w') :
    if Region.wanted o (yielded ops a.tmps)=true then Oper.wp P o a w K Q else E:=by
 have hw:Region.wanted o (yielded ops a.tmps)=true:=by simp [Region.wanted,hgd]
 rw [if_pos hw]
 obtain ⟨v',w',hrun,r1,r2,r3⟩:=run_append_que (P:=P) t tx o.type e i z size bytes ht hi hz hsize hby hzs h hb xv m news hs h63 hbytes
 unfold Oper.wp
 simp [execOp,ho,resolve,invoke,builtin,hv,hx,hrun,Result.andThen]
 exact hK v' w' r1 r2 r3
theorem placeE_app {y:Int × Int} {z:Value}:∀ (L:List ((Int × Int) × Value)) (i:Nat),lookE y L=none→placeE y (L++[(y,z)]) i=some (i+L.length,z)
 | [],i,_ => by simp [placeE]
 | x :: L,i,h => by
  unfold lookE at h
  by_cases e:y=x.1
  ·rw [if_pos e] at h;cases h
  ·rw [if_neg e] at h
   show placeE y (x :: (L++[(y,z)])) i=_
   unfold placeE
   rw [if_neg e,placeE_app L (i+1) h,List.length_cons]
   congr 2;omega
theorem updE_app {y:Int × Int} {z v:Value}:∀ (L:List ((Int × Int) × Value)),lookE y L=none→updE y v (L++[(y,z)])=updE y v L
 | [],_ => by simp [updE]
 | x :: L,h => by
  unfold lookE at h
  by_cases e:y=x.1
  ·rw [if_pos e] at h;cases h
  ·rw [if_neg e] at h
   show updE y v (x :: (L++[(y,z)]))=_
   unfold updE
   rw [if_neg e,if_neg e,updE_app L h]
theorem EMap.entryD {w : World} {b : Nat} {L : List ((Int × Int) × Value)} {mt et : TypeId} (h : EMap w b L) (hu : Tryz.prog.underlying mt = some (.map 79 et)) {z : Value} (hz : (zeroValue et).run Tryz.prog w = .ok z w) (y : Int × Int) :
    ∃ o s L',(Instr.mapEntry mt (.map (some b)) (evV y)).run Tryz.prog w=.ok (.tuple #[(lookE y L).getD z,goInt (s:Nat)]) (w.putObj b o)∧EBack (w.putObj b o) b L' y s∧∀ v,updE y v L'=updE y v L:=by
 cases hl:lookE y L with
 | some v =>
  obtain ⟨o,s,h1,h2⟩:=h.entry hu hl
  exact ⟨o,s,L,h1,h2,fun _=>rfl⟩
 | none =>
  obtain ⟨es,clock,hb,he,hbl,hnd⟩:=h
  have hk:=fun c=>run_checkKey_ev c y w
  have hf:=run_findKeyE y w es.toList L he
  have hp:=placeE_look (y:=y) L 0
  rw [hl] at hp
  rw [hp] at hf
  have hlt:=(Array.getElem?_eq_some_iff.1 hb).1
  have hlen:es.toList.length=L.length:=by simpa using congrArg List.length he
  refine ⟨.map (es.push { key:=evV y,val:=z,born:=clock }) (clock+1),clock,L++[(y,z)],?_,⟨es.push { key:=evV y,val:=z,born:=clock },clock+1,L.length,z,by simp [World.putObj,hlt],by simp [he],?_,?_,by rw [placeE_app L 0 hl,Nat.zero_add],?_⟩,fun v=>updE_app L hl⟩
  ·simp [Instr.mapEntry,Sem.run_bind,run_underlying hu,getObj,setObj,Sem.run,hb,hk,hf,hz,World.putObj]
  ·intro x hx
   rw [Array.toList_push,List.mem_append] at hx
   rcases hx with hx | hx
   ·have:=hbl x hx;omega
   ·obtain rfl:=List.mem_singleton.1 hx;exact Nat.lt_succ_self _
  ·rw [Array.toList_push,List.map_append,List.nodup_append]
   refine ⟨hnd,by simp,fun a ha c hc e=>?_⟩
   obtain ⟨x,hx,rfl⟩:=List.mem_map.1 ha
   have hc':c=clock:=by simpa using hc
   have:=hbl x hx
   omega
  ·rw [Array.toList_push,List.getElem?_append_right (by omega),←hlen];simp
abbrev Ins:=Int × Int × Int × Int
def insCells (l:List Ins):List Value:=l.flatMap fun s=>[.int .i64 s.1,.int .i64 s.2.1,.int .i64 s.2.2.1,.int .i64 s.2.2.2,.slice none 0 0]
theorem insCells_snoc (l:List Ins) (s:Ins):insCells (l++[s])=insCells l++[.int .i64 s.1,.int .i64 s.2.1,.int .i64 s.2.2.1,.int .i64 s.2.2.2,.slice none 0 0]:=by simp [insCells]
theorem insCells_one (l:List Ins):∀ u∈insCells l,u.oneCell'=true:=by
 intro u hu
 obtain ⟨s,_,h⟩:=List.mem_flatMap.1 hu
 simp at h
 rcases h with rfl | rfl | rfl | rfl | rfl <;> rfl
def nvI (L:List ((Int × Int) × Value)) (z:NN):Value:=(lookE (evI z) L).getD (.slice none 0 0)
structure ApI (wL wK:World) (bmf:Bool→Nat) (LM:Bool→List ((Int × Int) × Value)) (G:Bool→NN→List Ins) (wr:World):Prop where
 x:Ext wL wr
 kx:wK.heap.size≤wr.heap.size
 kp:∀ g,g<wK.heap.size→(∀ c,g≠bmf c)→wr.heap[g]?=wK.heap[g]?
 hb:∀ c,wL.heap.size≤bmf c∧bmf c<wK.heap.size
 hne:bmf true≠bmf false
 mp:∀ c,EMap wr (bmf c) (LM c)
 rows:∀ c z,Que wr wK.heap.size 5 (nvI (LM c) z) (G c z).length (insCells (G c z))
 own:∀ c z b,(nvI (LM c) z).ownBlock=some b→wK.heap.size≤b∧b<wr.heap.size
 apart:∀ c z d y,(c,z)≠(d,y)→∀ b,(nvI (LM c) z).ownBlock=some b→(nvI (LM d) y).ownBlock≠some b
theorem ApI.ext {wL wK:World} {bmf:Bool→Nat} {LM:Bool→List ((Int × Int) × Value)} {G:Bool→NN→List Ins} {wr w':World} (h:ApI wL wK bmf LM G wr) (x:Ext wr w'):ApI wL wK bmf LM G w':=
 ⟨h.x.trans x,Nat.le_trans h.kx x.le,fun g hg hc=>(x.block g (Nat.lt_of_lt_of_le hg h.kx)).trans (h.kp g hg hc),h.hb,h.hne,fun c=>(h.mp c).ext x,fun c z=>(h.rows c z).ext x,fun c z b e=>⟨(h.own c z b e).1,Nat.lt_of_lt_of_le (h.own c z b e).2 x.le⟩,h.apart⟩
theorem ApI.like {wL wK:World} {bmf:Bool→Nat} {LM:Bool→List ((Int × Int) × Value)} {G G':Bool→NN→List Ins} {wr:World} (h:ApI wL wK bmf LM G wr) (e:∀ c z,G' c z=G c z):ApI wL wK bmf LM G' wr:=
 ⟨h.x,h.kx,h.kp,h.hb,h.hne,h.mp,fun c z=>by rw [e];exact h.rows c z,h.own,h.apart⟩
theorem ApI.cell {wL wK:World} {bmf:Bool→Nat} {LM:Bool→List ((Int × Int) × Value)} {G:Bool→NN→List Ins} {wr:World} (h:ApI wL wK bmf LM G wr) {a:Addr} {v:Value} (hc:wK.cell? a=some v) (hl:a.block<wK.heap.size) (hn:∀ c,a.block≠bmf c):wr.cell? a=some v:=
 (World.cell?_of_block (w:=wK) (a:=a) (h.kp a.block hl hn)).trans hc
def bmF (b:Nat) (c:Bool):Nat:=bif c then b+1 else b
theorem ApI.new {w4 wK:World} (x:Ext ((w4.alloc (.map #[] 0)).alloc (.map #[] 0)) wK):ApI w4 wK (bmF w4.heap.size) (fun _=>[]) (fun _ _=>[]) wK:=by
 have h1:Ext w4 ((w4.alloc (.map #[] 0)).alloc (.map #[] 0)):=(Ext.alloc _ _).trans (Ext.alloc _ _)
 have hs:((w4.alloc (.map #[] 0)).alloc (.map #[] 0)).heap.size=w4.heap.size+2:=by simp
 have hx:=x.le
 refine ⟨h1.trans x,Nat.le_refl _,fun _ _ _=>rfl,fun c=>?_,by show w4.heap.size+1≠w4.heap.size;omega,fun c=>?_,fun c z=>Que.nil _ _ _,fun c z b e=>(by cases e),fun c z d y _ b e=>(by cases e)⟩
 ·cases c
  ·show w4.heap.size≤w4.heap.size∧w4.heap.size<_;omega
  ·show w4.heap.size≤w4.heap.size+1∧w4.heap.size+1<_;omega
 ·cases c
  ·exact ((EMap.new w4).ext (Ext.alloc _ _)).ext x
  ·have h2:=(EMap.new (w4.alloc (.map #[] 0))).ext x
   rw [World.size_alloc] at h2;exact h2
def setB {α:Type} (c:Bool) (v:α) (f:Bool→α) (d:Bool):α:=if d=c then v else f d
theorem nvI_upd (L:List ((Int × Int) × Value)) (y:NN) (v:Value) (z:NN):nvI (updE (evI y) v L) z=if z=y then v else nvI L z:=by
 unfold nvI
 rw [lookE_upd]
 by_cases e:z=y
 ·subst e;rw [if_pos rfl,if_pos rfl];rfl
 ·rw [if_neg (fun h1=>e (evI_inj h1)),if_neg e]
theorem ApI.upd {wL wK : World} {bmf : Bool → Nat} {LM : Bool → List ((Int × Int) × Value)} {G G' : Bool → NN → List Ins} {wr : World} (h : ApI wL wK bmf LM G wr) (c : Bool) (y : NN) {W : World} (hxW : Ext wL W) (hsz : wr.heap.size ≤ W.heap.size)
    (hkeep:∀ g,g<wr.heap.size→g≠bmf c→(nvI (LM c) y).ownBlock≠some g→W.heap[g]?=wr.heap[g]?) {v:Value} (hv:Que W wK.heap.size 5 v (G' c y).length (insCells (G' c y))) (hG:∀ d z,(d,z)≠(c,y)→G' d z=G d z)
    (hvb:∀ g,v.ownBlock=some g→((nvI (LM c) y).ownBlock=some g∨wr.heap.size≤g)∧g<W.heap.size) {o:Obj} (hm:EMap (W.putObj (bmf c) o) (bmf c) (updE (evI y) v (LM c))) :
    ApI wL wK bmf (setB c (updE (evI y) v (LM c)) LM) G' (W.putObj (bmf c) o):=by
 have hps:(W.putObj (bmf c) o).heap.size=W.heap.size:=by simp
 have hnv:∀ d z,nvI (setB c (updE (evI y) v (LM c)) LM d) z=if (d,z)=(c,y) then v else nvI (LM d) z:=fun d z=>by
  unfold setB
  by_cases e:d=c
  ·subst e
   rw [if_pos rfl,nvI_upd]
   by_cases e2:z=y
   ·subst e2;rw [if_pos rfl,if_pos rfl]
   ·rw [if_neg e2,if_neg fun h1=>e2 (Prod.mk.inj h1).2]
  ·rw [if_neg e,if_neg fun h1=>e (Prod.mk.inj h1).1]
 have hkx:=h.kx
 have hbml:∀ d,bmf d<wr.heap.size:=fun d=>(h.mp d).lt
 have hnb:∀ d z g,(nvI (LM d) z).ownBlock=some g→∀ d',g≠bmf d':=fun d z g e d' e2=>by
  have h1:=(h.own d z g e).1
  have h2:=(h.hb d').2
  omega
 have hvn:∀ g,v.ownBlock=some g→wK.heap.size≤g∧∀ d,g≠bmf d:=fun g e=>by
  rcases (hvb g e).1 with h1 | h1
  ·exact ⟨(h.own c y g h1).1,hnb c y g h1⟩
  ·exact ⟨by omega,fun d e2=>by have:=hbml d;omega⟩
 have hnk:∀ d z,(d,z)≠(c,y)→∀ g,(nvI (LM d) z).ownBlock=some g→(W.putObj (bmf c) o).heap[g]?=wr.heap[g]?:=fun d z hne g e=>by
  have h1:=h.own d z g e
  rw [World.putObj_heap_other (hnb d z g e c)]
  exact hkeep g h1.2 (hnb d z g e c) fun e2=>h.apart d z c y hne g e e2
 refine ⟨hxW.putObj (h.hb c).1 o,by rw [hps];omega,fun g hg hc=>?_,h.hb,h.hne,fun d=>?_,fun d z=>?_,fun d z b e=>?_,fun d z d' z' hne b e1 e2=>?_⟩
 ·rw [World.putObj_heap_other (hc c),hkeep g (by omega) (hc c) fun e=>by have:=(h.own c y g e).1;omega]
  exact h.kp g hg hc
 ·unfold setB
  by_cases e:d=c
  ·subst e;rw [if_pos rfl];exact hm
  ·rw [if_neg e]
   refine (h.mp d).same ?_
   have hdc:bmf d≠bmf c:=by
    have:=h.hne
    cases d <;> cases c <;> simp_all
    exact fun h2=>this h2.symm
   rw [World.putObj_heap_other hdc]
   exact hkeep _ (hbml d) hdc fun e2=>hnb c y _ e2 d rfl
 ·rw [hnv]
  by_cases e:(d,z)=(c,y)
  ·rw [if_pos e]
   obtain ⟨rfl,rfl⟩:=Prod.mk.inj e
   exact hv.same' (by rw [hps];exact Nat.le_refl _) fun g e2=>World.putObj_heap_other ((hvn g e2).2 d)
  ·rw [if_neg e,hG d z e]
   exact (h.rows d z).same' (by rw [hps];exact hsz) fun g e2=>hnk d z e g e2
 ·rw [hnv] at e
  by_cases e2:(d,z)=(c,y)
  ·rw [if_pos e2] at e
   exact ⟨(hvn b e).1,by rw [hps];exact (hvb b e).2⟩
  ·rw [if_neg e2] at e
   have h1:=h.own d z b e
   exact ⟨h1.1,by rw [hps];omega⟩
 ·rw [hnv] at e1 e2
  by_cases k1:(d,z)=(c,y)
  ·rw [if_pos k1] at e1
   have k2:(d',z')≠(c,y):=fun h1=>hne (k1.trans h1.symm)
   rw [if_neg k2] at e2
   rcases (hvb b e1).1 with h1 | h1
   ·exact h.apart c y d' z' (fun h2=>k2 h2.symm) b h1 e2
   ·have:=(h.own d' z' b e2).2;omega
  ·rw [if_neg k1] at e1
   by_cases k2:(d',z')=(c,y)
   ·rw [if_pos k2] at e2
    rcases (hvb b e2).1 with h1 | h1
    ·exact h.apart c y d z (fun h2=>k1 h2.symm) b h1 e1
    ·have:=(h.own d z b e1).2;omega
   ·rw [if_neg k2] at e2
    exact h.apart d z d' z' hne b e1 e2
def Tr.insG (T:Tr) (N:List Syn) (F:List Nat) (c:Bool) (z:NN):Nat→List Ins
 | 0 => []
 | j+1 => T.insG N F c z j++match N[j]? with
  | some s => if (bif c then s.1 else s.2)=evI z then [((bif c then 2 else 3),(bif c then s.2.1 else s.1.1),((F.getD j 0:Nat):Int),T.time z.1 z.2)] else []
  | none => []
def Tr.apl (T:Tr) (N:List Syn) (F:List Nat) (p:Nat):Nat→List (Nat ⊕ Ins)
 | 0 => []
 | i+1 => T.apl N F p i++((T.insG N F false (p,i) N.length).map Sum.inr++([Sum.inl i]++(T.insG N F true (p,i) N.length).map Sum.inr))
def pickI {α:Type} (d:α) (f:Nat→α) (g:Ins→α):Option (Nat ⊕ Ins)→α
 | none => d
 | some (.inl i) => f i
 | some (.inr s) => g s
def Tr.aplTr (T:Tr) (N:List Syn) (F:List Nat):Tr where
 n:=T.n
 name:=T.name
 vn:=T.vn
 vname:=T.vname
 vinit:=T.vinit
 en p:=(T.apl N F p (T.en p)).length
 kind p j:=pickI 0 (T.kind p) (fun s=>s.1) (T.apl N F p (T.en p))[j]?
 peer p j:=pickI 0 (T.peer p) (fun s=>s.2.1) (T.apl N F p (T.en p))[j]?
 msg p j:=pickI 0 (T.msg p) (fun s=>s.2.2.1) (T.apl N F p (T.en p))[j]?
 time p j:=pickI 0 (T.time p) (fun s=>s.2.2.2) (T.apl N F p (T.en p))[j]?
 an p j:=pickI 0 (T.an p) (fun _=>0) (T.apl N F p (T.en p))[j]?
 avar p j:=pickI (fun _=>0) (T.avar p) (fun _ _=>0) (T.apl N F p (T.en p))[j]?
 aval p j:=pickI (fun _=>0) (T.aval p) (fun _ _=>0) (T.apl N F p (T.en p))[j]?
theorem apl_inl {T:Tr} {N:List Syn} {F:List Nat} {p x:Nat}:∀ {i:Nat},Sum.inl x∈T.apl N F p i→x<i
 | i+1,h => by
  unfold Tr.apl at h
  rw [List.mem_append,List.mem_append,List.mem_append] at h
  rcases h with h | h | h | h
  ·exact Nat.lt_succ_of_lt (apl_inl h)
  ·obtain ⟨_,_,e⟩:=List.mem_map.1 h;cases e
  ·rw [List.mem_singleton] at h;cases h;exact Nat.lt_succ_self _
  ·obtain ⟨_,_,e⟩:=List.mem_map.1 h;cases e
theorem insG_mem {T:Tr} {N:List Syn} {F:List Nat} {c:Bool} {z:NN} {s:Ins}:∀ {j:Nat},s∈T.insG N F c z j→∃ i x,i<j∧N[i]?=some x∧(bif c then x.1 else x.2)=evI z∧s=((bif c then 2 else 3),(bif c then x.2.1 else x.1.1),((F.getD i 0:Nat):Int),T.time z.1 z.2)
 | j+1,h => by
  unfold Tr.insG at h
  rcases List.mem_append.1 h with h | h
  ·obtain ⟨i,x,h1,h2⟩:=insG_mem h
   exact ⟨i,x,by omega,h2⟩
  ·cases hN:N[j]? with
   | none => rw [hN] at h;cases h
   | some x =>
    rw [hN] at h
    simp only at h
    by_cases e:(bif c then x.1 else x.2)=evI z
    ·rw [if_pos e] at h
     exact ⟨j,x,Nat.lt_succ_self _,hN,e,List.mem_singleton.1 h⟩
    ·rw [if_neg e] at h;cases h
theorem apl_inr {T:Tr} {N:List Syn} {F:List Nat} {p:Nat} {s:Ins}:∀ {i:Nat},Sum.inr s∈T.apl N F p i→∃ c k,k<i∧s∈T.insG N F c (p,k) N.length
 | i+1,h => by
  unfold Tr.apl at h
  rw [List.mem_append,List.mem_append,List.mem_append] at h
  rcases h with h | h | h | h
  ·obtain ⟨c,k,h1,h2⟩:=apl_inr h
   exact ⟨c,k,by omega,h2⟩
  ·obtain ⟨x,h1,e⟩:=List.mem_map.1 h
   cases e;exact ⟨false,i,Nat.lt_succ_self _,h1⟩
  ·rw [List.mem_singleton] at h;cases h
  ·obtain ⟨x,h1,e⟩:=List.mem_map.1 h
   cases e;exact ⟨true,i,Nat.lt_succ_self _,h1⟩
structure InsOk (T:Tr) (N:List Syn) (F:List Nat):Prop where
 n:∀ s,s∈N→okI s.1.1∧okI s.2.1
 f:∀ m,m∈F→okI (m:Int)
theorem InsOk.ins {T:Tr} {N:List Syn} {F:List Nat} (h:InsOk T N F) (hT:T.Ok) {p i:Nat} (hp:p<T.n) (hi:i≤T.en p) {s:Ins} (hs:Sum.inr s∈T.apl N F p i):okI s.1∧okI s.2.1∧okI s.2.2.1∧okI s.2.2.2:=by
 obtain ⟨c,k,hk,h1⟩:=apl_inr hs
 obtain ⟨j,x,_,hx,_,rfl⟩:=insG_mem h1
 have hn:=h.n x (List.mem_of_getElem? hx)
 refine ⟨by cases c <;> simp [okI],?_,?_,hT.time p k hp (by omega)⟩
 ·cases c
  ·exact hn.1
  ·exact hn.2
 ·show okI ((F.getD j 0:Nat):Int)
  rw [List.getD_eq_getElem?_getD]
  cases hF:F[j]? with
  | none => unfold okI;decide
  | some m => exact h.f m (List.mem_of_getElem? hF)
theorem pick_ok {l:List (Nat ⊕ Ins)} {f:Nat→Int} {g:Ins→Int} (hf:∀ i,Sum.inl i∈l→okI (f i)) (hg:∀ s,Sum.inr s∈l→okI (g s)) (j:Nat):okI (pickI 0 f g l[j]?):=by
 cases h:l[j]? with
 | none => show okI 0;unfold okI;decide
 | some x =>
  have hm:=List.mem_of_getElem? h
  cases x with
  | inl i => exact hf i hm
  | inr s => exact hg s hm
theorem pick_ok2 {l:List (Nat ⊕ Ins)} {f:Nat→Nat→Int} {a:Nat→Nat} (hf:∀ i,Sum.inl i∈l→∀ k,k<a i→okI (f i k)) (j k:Nat) (hk:k<pickI 0 a (fun _=>0) l[j]?):okI (pickI (fun _=>0) f (fun _ _=>0) l[j]? k):=by
 cases h:l[j]? with
 | none => show okI 0;unfold okI;decide
 | some x =>
  have hm:=List.mem_of_getElem? h
  rw [h] at hk
  cases x with
  | inl i => exact hf i hm k hk
  | inr s => show okI 0;unfold okI;decide
theorem aplTr_ok {T:Tr} {N:List Syn} {F:List Nat} (hT:T.Ok) (hI:InsOk T N F):(T.aplTr N F).Ok:=by
 refine ⟨hT.name,hT.vname,hT.vinit,fun p j hp _=>?_,fun p j hp _=>?_,fun p j hp _=>?_,fun p j hp _=>?_,fun p j k hp _ hk=>?_,fun p j k hp _ hk=>?_⟩
 ·exact pick_ok (fun i hi=>hT.kind p i hp (apl_inl hi)) (fun s hs=>(hI.ins hT hp (Nat.le_refl _) hs).1) j
 ·exact pick_ok (fun i hi=>hT.peer p i hp (apl_inl hi)) (fun s hs=>(hI.ins hT hp (Nat.le_refl _) hs).2.1) j
 ·exact pick_ok (fun i hi=>hT.msg p i hp (apl_inl hi)) (fun s hs=>(hI.ins hT hp (Nat.le_refl _) hs).2.2.1) j
 ·exact pick_ok (fun i hi=>hT.time p i hp (apl_inl hi)) (fun s hs=>(hI.ins hT hp (Nat.le_refl _) hs).2.2.2) j
 ·exact pick_ok2 (a:=T.an p) (fun i hi k hk=>hT.avar p i k hp (apl_inl hi) hk) j k hk
 ·exact pick_ok2 (a:=T.an p) (fun i hi k hk=>hT.aval p i k hp (apl_inl hi) hk) j k hk
theorem flat_get {α:Type} {m:Nat} {f:α→List Value} (hf:∀ a,(f a).length=m) {r:Nat} (hr:r<m):∀ (l:List α) (i:Nat),(l.flatMap f)[i*m+r]?=(l[i]?).bind fun a=>(f a)[r]?
 | [],i => by simp
 | a :: l,0 => by
  rw [List.flatMap_cons,Nat.zero_mul,Nat.zero_add,List.getElem?_append_left (by rw [hf];exact hr)];rfl
 | a :: l,i+1 => by
  rw [List.flatMap_cons,List.getElem?_append_right (by rw [hf,Nat.add_mul];omega),hf,show (i+1)*m+r - m=i*m+r by rw [Nat.add_mul];omega,flat_get hf hr l i]
  rfl
theorem flat_len {α:Type} {m:Nat} {f:α→List Value} (hf:∀ a,(f a).length=m):∀ l:List α,(l.flatMap f).length=l.length*m
 | [] => by simp
 | a :: l => by rw [List.flatMap_cons,List.length_append,hf,flat_len hf l,List.length_cons,Nat.add_mul];omega
structure RowM (w:World) (s:SlD) (size:Nat) (xs:List Value):Prop where
 hn:s.n≤140737488355328
 hc:s.n≤s.c
 len:xs.length=s.n*size
 ha:0<s.n→s.a=some ⟨s.b,s.o,none⟩
 hb:0<s.n→s.b<w.heap.size
 c:∀ j,j<s.n*size→w.cell? ⟨s.b,s.o+j,none⟩=xs[j]?
theorem RowM.same {w w':World} {s:SlD} {size:Nat} {xs:List Value} (h:RowM w s size xs) (hs:w.heap.size≤w'.heap.size) (hb:0<s.n→w'.heap[s.b]?=w.heap[s.b]?):RowM w' s size xs:=by
 refine ⟨h.hn,h.hc,h.len,h.ha,fun h0=>Nat.lt_of_lt_of_le (h.hb h0) hs,fun j hj=>?_⟩
 have h0:0<s.n:=Nat.pos_of_ne_zero fun e=>by rw [e] at hj;simp at hj
 exact (World.cell?_of_block (w:=w) (a:=⟨s.b,s.o+j,none⟩) (hb h0)).trans (h.c j hj)
theorem RowM.ext {w w':World} {s:SlD} {size:Nat} {xs:List Value} (h:RowM w s size xs) (x:Ext w w'):RowM w' s size xs:=h.same x.le fun h0=>x.block _ (h.hb h0)
theorem RowM.que {w : World} {base size : Nat} {v : Value} {n : Nat} {xs : List Value} (h : Que w base size v n xs) (hn : n ≤ 140737488355328) :
    ∃ s:SlD,v=s.v∧s.n=n∧RowM w s size xs∧(0<s.n→base≤s.b∧v.ownBlock=some s.b):=by
 rcases h.val with ⟨ao,rfl,rfl,_⟩ | ⟨g,off,cap,rfl,h1,h2,h3,h4,h5,h6⟩
 ·exact ⟨⟨ao,0,0,0,0⟩,rfl,rfl,⟨by show (0:Nat)≤_;omega,Nat.le_refl _,by simpa using h.len,fun h=>absurd h (Nat.lt_irrefl _),fun h=>absurd h (Nat.lt_irrefl _),fun j hj=>by simp at hj⟩,fun h=>absurd h (Nat.lt_irrefl _)⟩
 ·exact ⟨⟨some ⟨g,off,none⟩,n,cap,g,off⟩,rfl,rfl,⟨hn,h3,h.len,fun _=>rfl,fun _=>h2,h5⟩,fun _=>⟨h1,rfl⟩⟩
theorem RowM.flat {w:World} {s:SlD} {α:Type} {m:Nat} {f:α→List Value} {l:List α} (h:RowM w s m (l.flatMap f)) (hf:∀ a,(f a).length=m) {i r:Nat} {a:α} {v:Value} (hi:l[i]?=some a) (hr:(f a)[r]?=some v):w.cell? ⟨s.b,s.o+i*m+r,none⟩=some v:=by
 have hrm:r<m:=by rw [←hf a];exact (List.getElem?_eq_some_iff.1 hr).1
 have hil:=(List.getElem?_eq_some_iff.1 hi).1
 have hsn:s.n*m=l.length*m:=by rw [←h.len,flat_len hf]
 have h1:i*m+r<l.length*m:=by
  have:=Nat.mul_le_mul_right m (Nat.succ_le_of_lt hil)
  rw [Nat.succ_mul] at this;omega
 rw [Nat.add_assoc,h.c _ (by omega),flat_get hf hrm,hi]
 exact hr
def Tr.varCs (T:Tr) (k:Nat):List Value:=(List.range (T.vn k)).flatMap fun i=>[.string (T.vname k i),.int .i64 (T.vinit k i)]
def Tr.asgCs (T:Tr) (k i:Nat):List Value:=(List.range (T.an k i)).flatMap fun j=>[.int .i64 (T.avar k i j),.int .i64 (T.aval k i j)]
def Tr.aplC (T:Tr) (p:Nat) (ad:Nat→SlD):Nat ⊕ Ins→List Value
 | .inl i => [.int .i64 (T.kind p i),.int .i64 (T.peer p i),.int .i64 (T.msg p i),.int .i64 (T.time p i),.slice (ad i).a (T.an p i) (ad i).c]
 | .inr s => [.int .i64 s.1,.int .i64 s.2.1,.int .i64 s.2.2.1,.int .i64 s.2.2.2,.slice none 0 0]
def Tr.aplCs (T:Tr) (N:List Syn) (F:List Nat) (p:Nat) (ad:Nat→SlD) (i:Nat):List Value:=(T.apl N F p i).flatMap (T.aplC p ad)
theorem aplC_len (T:Tr) (p:Nat) (ad:Nat→SlD):∀ a,(T.aplC p ad a).length=5
 | .inl _ => rfl
 | .inr _ => rfl
theorem flat_inr (T:Tr) (p:Nat) (ad:Nat→SlD) (l:List Ins):(l.map Sum.inr).flatMap (T.aplC p ad)=insCells l:=by
 unfold insCells
 rw [List.flatMap_map]
 rfl
theorem flatMap_congr' {α β:Type} {f g:α→List β}:∀ {l:List α},(∀ a,a∈l→f a=g a)→l.flatMap f=l.flatMap g
 | [],_ => rfl
 | a :: l,h => by rw [List.flatMap_cons,List.flatMap_cons,h a List.mem_cons_self,flatMap_congr' fun b hb => h b (List.mem_cons_of_mem _ hb)]
def setS {α:Type} (ad:Nat→α) (i:Nat) (s:α):Nat→α:=fun j=>if j=i then s else ad j
theorem setS_eq {α:Type} (ad:Nat→α) (i:Nat) (s:α):setS ad i s i=s:=if_pos rfl
theorem setS_ne {α:Type} (ad:Nat→α) {i j:Nat} (s:α) (h:j≠i):setS ad i s j=ad j:=if_neg h
theorem aplCs_set (T:Tr) (N:List Syn) (F:List Nat) (p:Nat) (ad:Nat→SlD) (i:Nat) (s:SlD):T.aplCs N F p (setS ad i s) i=T.aplCs N F p ad i:=
 flatMap_congr' fun a ha=>by
  cases a with
  | inr _ => rfl
  | inl x =>
   have:=apl_inl ha
   show [_,_,_,_,Value.slice (setS ad i s x).a (T.an p x) (setS ad i s x).c]=_
   rw [setS_ne ad s (by omega)];rfl
theorem aplCs_succ (T : Tr) (N : List Syn) (F : List Nat) (p : Nat) (ad : Nat → SlD) (i : Nat) (s : SlD) :
    T.aplCs N F p (setS ad i s) (i+1)=T.aplCs N F p ad i++insCells (T.insG N F false (p,i) N.length)++[.int .i64 (T.kind p i),.int .i64 (T.peer p i),.int .i64 (T.msg p i),.int .i64 (T.time p i),.slice s.a (T.an p i) s.c]++insCells (T.insG N F true (p,i) N.length):=by
 rw [←aplCs_set T N F p ad i s]
 unfold Tr.aplCs
 rw [show T.apl N F p (i+1)=T.apl N F p i++((T.insG N F false (p,i) N.length).map Sum.inr++([Sum.inl i]++(T.insG N F true (p,i) N.length).map Sum.inr)) from rfl]
 rw [List.flatMap_append,List.flatMap_append,List.flatMap_append,flat_inr,flat_inr,List.append_assoc,List.append_assoc]
 simp [Tr.aplC,setS_eq]
theorem apl_len_succ (T:Tr) (N:List Syn) (F:List Nat) (p i:Nat):(T.apl N F p (i+1)).length=(T.apl N F p i).length+(T.insG N F false (p,i) N.length).length+1+(T.insG N F true (p,i) N.length).length:=by
 simp [Tr.apl];omega
theorem insG_len (T:Tr) (N:List Syn) (F:List Nat) (c:Bool) (z:NN):∀ j,(T.insG N F c z j).length≤j
 | 0 => Nat.le_refl _
 | j+1 => by
  have h:=insG_len T N F c z j
  unfold Tr.insG
  rw [List.length_append]
  cases N[j]? with
  | none => simp;omega
  | some s => simp only;split <;> simp <;> omega
theorem apl_len_le (T:Tr) (N:List Syn) (F:List Nat) (p:Nat):∀ i,(T.apl N F p i).length≤i*(2*N.length+1)
 | 0 => Nat.zero_le _
 | i+1 => by
  have h:=apl_len_le T N F p i
  have h1:=insG_len T N F false (p,i) N.length
  have h2:=insG_len T N F true (p,i) N.length
  rw [apl_len_succ,Nat.succ_mul];omega
structure PAd where
 v:SlD
 e:SlD
 ad:Nat→SlD
instance:Inhabited PAd:=⟨⟨default,default,fun _=>default⟩⟩
structure PrM (T:Tr) (N:List Syn) (F:List Nat) (w:World) (k:Nat) (p:PAd):Prop where
 v:RowM w p.v 2 (T.varCs k)
 vn:p.v.n=T.vn k
 e:RowM w p.e 5 (T.aplCs N F k p.ad (T.en k))
 en:p.e.n=(T.apl N F k (T.en k)).length
 a:∀ i,i<T.en k→RowM w (p.ad i) 2 (T.asgCs k i)∧(p.ad i).n=T.an k i
def PAd.Blk (p:PAd) (m g:Nat):Prop:=(0<p.v.n∧g=p.v.b)∨(0<p.e.n∧g=p.e.b)∨∃ i,i<m∧0<(p.ad i).n∧g=(p.ad i).b
theorem PrM.same {T:Tr} {N:List Syn} {F:List Nat} {w w':World} {k:Nat} {p:PAd} (h:PrM T N F w k p) (hs:w.heap.size≤w'.heap.size) (hb:∀ g,p.Blk (T.en k) g→w'.heap[g]?=w.heap[g]?):PrM T N F w' k p:=
 ⟨h.v.same hs fun h0=>hb _ (.inl ⟨h0,rfl⟩),h.vn,h.e.same hs fun h0=>hb _ (.inr (.inl ⟨h0,rfl⟩)),h.en,fun i hi=>⟨(h.a i hi).1.same hs fun h0=>hb _ (.inr (.inr ⟨i,hi,h0,rfl⟩)),(h.a i hi).2⟩⟩
def Tr.prC (T:Tr) (N:List Syn) (F:List Nat) (pa:Nat→PAd) (k:Nat):List Value:=[.string (T.name k),.slice (pa k).v.a (T.vn k) (pa k).v.c,.slice (pa k).e.a (T.apl N F k (T.en k)).length (pa k).e.c]
def Tr.prCs (T:Tr) (N:List Syn) (F:List Nat) (pa:Nat→PAd) (k:Nat):List Value:=(List.range k).flatMap (T.prC N F pa)
theorem prCs_succ (T:Tr) (N:List Syn) (F:List Nat) (pa:Nat→PAd) (k:Nat) (p:PAd):T.prCs N F (setS pa k p) (k+1)=T.prCs N F pa k++[.string (T.name k),.slice p.v.a (T.vn k) p.v.c,.slice p.e.a (T.apl N F k (T.en k)).length p.e.c]:=by
 unfold Tr.prCs
 rw [List.range_succ,List.flatMap_append]
 congr 1
 ·exact flatMap_congr' fun a ha => by
    have:=List.mem_range.1 ha
    unfold Tr.prC
    rw [setS_ne pa p (by omega)]
 ·simp [Tr.prC,setS_eq]
def aplTM (T:Tr) (N:List Syn) (F:List Nat) (so:SlD) (pa:Nat→PAd):TM:=
 { T.aplTr N F with
  a:=so.a,b:=so.b,off:=so.o,cap:=so.c
  va:=fun k=>(pa k).v.a,vb:=fun k=>(pa k).v.b,vo:=fun k=>(pa k).v.o,vc:=fun k=>(pa k).v.c
  ea:=fun k=>(pa k).e.a,eb:=fun k=>(pa k).e.b,eo:=fun k=>(pa k).e.o,ec:=fun k=>(pa k).e.c
  aa:=fun k j=>pickI none (fun i=>((pa k).ad i).a) (fun _=>none) (T.apl N F k (T.en k))[j]?
  ab:=fun k j=>pickI 0 (fun i=>((pa k).ad i).b) (fun _=>0) (T.apl N F k (T.en k))[j]?
  ao:=fun k j=>pickI 0 (fun i=>((pa k).ad i).o) (fun _=>0) (T.apl N F k (T.en k))[j]?
  ac:=fun k j=>pickI 0 (fun i=>((pa k).ad i).c) (fun _=>0) (T.apl N F k (T.en k))[j]? }
theorem range_get' {n k:Nat} (h:k<n):(List.range n)[k]?=some k:=by simp [h]
theorem aplTM_at {T:Tr} {N:List Syn} {F:List Nat} {so:SlD} {pa:Nat→PAd} {w:World} (hT:T.Ok) (hI:InsOk T N F) (hn:so.n=T.n) (hs:RowM w so 3 (T.prCs N F pa T.n)) (hp:∀ k,k<T.n→PrM T N F w k (pa k)):(aplTM T N F so pa).At w:=by
 have hl3:∀ a,(T.prC N F pa a).length=3:=fun _=>rfl
 have get:∀ k j,k<T.n→j<(T.apl N F k (T.en k)).length→∃ x,(T.apl N F k (T.en k))[j]?=some x∧x∈T.apl N F k (T.en k):=fun k j _ hj=>⟨_,List.getElem?_eq_getElem hj,List.getElem_mem hj⟩
 refine ⟨⟨by show T.n≤_;rw [←hn];exact hs.hn,by rw [show (aplTM T N F so pa).n=so.n from hn.symm];exact hs.hc,fun h0=>hs.ha (by rw [hn];exact h0),fun h0 w' x=>Nat.lt_of_lt_of_le (hs.hb (by rw [hn];exact h0)) x.le,fun w' x k hk=>?_,fun w' x k hk=>?_,fun w' x k hk=>?_⟩,
  ⟨fun k hk=>?_,fun k hk=>?_,fun k hk h0=>?_,fun k hk h0 w' x=>?_,fun w' x k i hk hi=>?_,fun w' x k i hk hi=>?_⟩,
  ⟨fun k hk=>?_,fun k hk=>?_,fun k hk h0=>?_,fun k hk h0 w' x=>?_,fun w' x k j hk hj=>?_,fun w' x k j hk hj=>?_,fun w' x k j hk hj=>?_,fun w' x k j hk hj=>?_,fun w' x k j hk hj=>?_⟩,
  ⟨fun k j hk hj=>?_,fun k j hk hj=>?_,fun k j hk hj h0=>?_,fun k j hk hj h0 w' x=>?_,fun w' x k j l hk hj hl=>?_,fun w' x k j l hk hj hl=>?_⟩,aplTr_ok hT hI⟩
 ·exact (hs.ext x).flat (r:=0) hl3 (range_get' hk) rfl
 ·exact (hs.ext x).flat (r:=1) hl3 (range_get' hk) rfl
 ·exact (hs.ext x).flat (r:=2) hl3 (range_get' hk) rfl
 ·rw [show (aplTM T N F so pa).vn k=(pa k).v.n from (hp k hk).vn.symm];exact (hp k hk).v.hn
 ·rw [show (aplTM T N F so pa).vn k=(pa k).v.n from (hp k hk).vn.symm];exact (hp k hk).v.hc
 ·exact (hp k hk).v.ha (by rw [(hp k hk).vn];exact h0)
 ·exact Nat.lt_of_lt_of_le ((hp k hk).v.hb (by rw [(hp k hk).vn];exact h0)) x.le
 ·exact ((hp k hk).v.ext x).flat (r:=0) (fun _=>rfl) (range_get' hi) rfl
 ·exact ((hp k hk).v.ext x).flat (r:=1) (fun _=>rfl) (range_get' hi) rfl
 ·rw [show (aplTM T N F so pa).en k=(pa k).e.n from (hp k hk).en.symm];exact (hp k hk).e.hn
 ·rw [show (aplTM T N F so pa).en k=(pa k).e.n from (hp k hk).en.symm];exact (hp k hk).e.hc
 ·exact (hp k hk).e.ha (by rw [(hp k hk).en];exact h0)
 ·exact Nat.lt_of_lt_of_le ((hp k hk).e.hb (by rw [(hp k hk).en];exact h0)) x.le
 ·obtain ⟨y,hy,_⟩:=get k j hk hj
  refine ((hp k hk).e.ext x).flat (r:=0) (aplC_len T k _) hy ?_
  show _=some (Value.int .i64 (pickI 0 _ _ (T.apl N F k (T.en k))[j]?))
  rw [hy];cases y <;> rfl
 ·obtain ⟨y,hy,_⟩:=get k j hk hj
  refine ((hp k hk).e.ext x).flat (r:=1) (aplC_len T k _) hy ?_
  show _=some (Value.int .i64 (pickI 0 _ _ (T.apl N F k (T.en k))[j]?))
  rw [hy];cases y <;> rfl
 ·obtain ⟨y,hy,_⟩:=get k j hk hj
  refine ((hp k hk).e.ext x).flat (r:=2) (aplC_len T k _) hy ?_
  show _=some (Value.int .i64 (pickI 0 _ _ (T.apl N F k (T.en k))[j]?))
  rw [hy];cases y <;> rfl
 ·obtain ⟨y,hy,_⟩:=get k j hk hj
  refine ((hp k hk).e.ext x).flat (r:=3) (aplC_len T k _) hy ?_
  show _=some (Value.int .i64 (pickI 0 _ _ (T.apl N F k (T.en k))[j]?))
  rw [hy];cases y <;> rfl
 ·obtain ⟨y,hy,_⟩:=get k j hk hj
  refine ((hp k hk).e.ext x).flat (r:=4) (aplC_len T k _) hy ?_
  show _=some (Value.slice (pickI none _ _ (T.apl N F k (T.en k))[j]?) (pickI 0 _ _ (T.apl N F k (T.en k))[j]?) (pickI 0 _ _ (T.apl N F k (T.en k))[j]?))
  rw [hy];cases y <;> rfl
 ·obtain ⟨y,hy,hm⟩:=get k j hk hj
  show pickI 0 _ _ (T.apl N F k (T.en k))[j]?≤_
  rw [hy]
  cases y with
  | inr _ => exact Nat.zero_le _
  | inl i => show T.an k i≤_;rw [←((hp k hk).a i (apl_inl hm)).2];exact ((hp k hk).a i (apl_inl hm)).1.hn
 ·obtain ⟨y,hy,hm⟩:=get k j hk hj
  show pickI 0 _ _ (T.apl N F k (T.en k))[j]?≤pickI 0 _ _ (T.apl N F k (T.en k))[j]?
  rw [hy]
  cases y with
  | inr _ => exact Nat.zero_le _
  | inl i => show T.an k i≤_;rw [←((hp k hk).a i (apl_inl hm)).2];exact ((hp k hk).a i (apl_inl hm)).1.hc
 ·obtain ⟨y,hy,hm⟩:=get k j hk hj
  have h0':0<pickI 0 (T.an k) (fun _=>0) (T.apl N F k (T.en k))[j]?:=h0
  show pickI none _ _ (T.apl N F k (T.en k))[j]?=some (⟨pickI 0 _ _ (T.apl N F k (T.en k))[j]?,pickI 0 _ _ (T.apl N F k (T.en k))[j]?,none⟩:Addr)
  rw [hy] at h0' ⊢
  cases y with
  | inr _ => exact absurd h0' (Nat.lt_irrefl _)
  | inl i => exact ((hp k hk).a i (apl_inl hm)).1.ha (by rw [((hp k hk).a i (apl_inl hm)).2];exact h0')
 ·obtain ⟨y,hy,hm⟩:=get k j hk hj
  have h0':0<pickI 0 (T.an k) (fun _=>0) (T.apl N F k (T.en k))[j]?:=h0
  show pickI 0 _ _ (T.apl N F k (T.en k))[j]?<_
  rw [hy] at h0' ⊢
  cases y with
  | inr _ => exact absurd h0' (Nat.lt_irrefl _)
  | inl i => exact Nat.lt_of_lt_of_le (((hp k hk).a i (apl_inl hm)).1.hb (by rw [((hp k hk).a i (apl_inl hm)).2];exact h0')) x.le
 ·obtain ⟨y,hy,hm⟩:=get k j hk hj
  have hl':l<pickI 0 (T.an k) (fun _=>0) (T.apl N F k (T.en k))[j]?:=hl
  show w'.cell? ⟨pickI 0 _ _ (T.apl N F k (T.en k))[j]?,pickI 0 _ _ (T.apl N F k (T.en k))[j]?+l*2,none⟩=some (.int .i64 (pickI (fun _=>0) _ _ (T.apl N F k (T.en k))[j]? l))
  rw [hy] at hl' ⊢
  cases y with
  | inr _ => exact absurd hl' (Nat.not_lt_zero _)
  | inl i => exact (((hp k hk).a i (apl_inl hm)).1.ext x).flat (r:=0) (fun _ => rfl) (range_get' hl') rfl
 ·obtain ⟨y,hy,hm⟩:=get k j hk hj
  have hl':l<pickI 0 (T.an k) (fun _=>0) (T.apl N F k (T.en k))[j]?:=hl
  show w'.cell? ⟨pickI 0 _ _ (T.apl N F k (T.en k))[j]?,pickI 0 _ _ (T.apl N F k (T.en k))[j]?+l*2+1,none⟩=some (.int .i64 (pickI (fun _=>0) _ _ (T.apl N F k (T.en k))[j]? l))
  rw [hy] at hl' ⊢
  cases y with
  | inr _ => exact absurd hl' (Nat.not_lt_zero _)
  | inl i => exact (((hp k hk).a i (apl_inl hm)).1.ext x).flat (r:=1) (fun _ => rfl) (range_get' hl') rfl
theorem infoVar:(Tryz.prog.info? 94).map (fun i=>(i.zero,i.size,i.bytes))=some (some (.agg #[.string ⟨#[]⟩,.int .i64 0]),2,24):=by kernel_rfl
theorem infoAsg:(Tryz.prog.info? 97).map (fun i=>(i.zero,i.size,i.bytes))=some (some (.agg #[.int .i64 0,.int .i64 0]),2,16):=by kernel_rfl
theorem infoEvnt:(Tryz.prog.info? 65).map (fun i=>(i.zero,i.size,i.bytes))=some (some (.agg #[.int .i64 0,.int .i64 0,.int .i64 0,.int .i64 0,.slice none 0 0]),5,56):=by kernel_rfl
theorem infoProc:(Tryz.prog.info? 62).map (fun i=>(i.zero,i.size,i.bytes))=some (some (.agg #[.string ⟨#[]⟩,.slice none 0 0,.slice none 0 0]),3,64):=by kernel_rfl
theorem RowM.src {P:Program} {w:World} {s:SlD} {size:Nat} {xs:List Value} (h:RowM w s size xs) {tx e':TypeId} (hk:P.underlying tx=some (.slice e')) (h1:∀ u∈xs,u.oneCell'=true):Src P size tx s.v s.n xs w:=by
 cases ha:s.a with
 | none =>
  have h0:s.n=0:=Nat.eq_zero_of_not_pos fun h0=>by have:=h.ha h0;rw [ha] at this;cases this
  have hx:xs=[]:=List.eq_nil_of_length_eq_zero (by rw [h.len,h0,Nat.zero_mul])
  subst hx
  have h2:=Src.ofNil (size:=size) w hk s.c
  rw [show s.v=.slice none 0 s.c by show Value.slice s.a s.n s.c=_;rw [ha,h0],h0]
  exact h2
 | some a =>
  rw [show s.v=.slice (some a) s.n s.c by show Value.slice s.a s.n s.c=_;rw [ha]]
  refine Src.ofSlice w hk a s.n s.c xs h.len (fun j u hu=>?_) h1
  have hj:=(List.getElem?_eq_some_iff.1 hu).1
  rw [h.len] at hj
  have h0:0<s.n:=Nat.pos_of_ne_zero fun e=>by rw [e] at hj;simp at hj
  have:=h.ha h0
  rw [ha] at this
  cases this
  rw [Addr.add_lit];exact (h.c j hj).trans hu
set_option maxHeartbeats 1000000 in
theorem cloneVar_any (w : World) (s : SlD) (xs : List Value) (h : RowM w s 2 xs) (hl : s.n ≤ 1000) (h1 : ∀ u ∈ xs, u.oneCell' = true) :
    Calls Tryz.prog 53 #[.slice s.a s.n s.c] w fun e w'=>∃ v',e=.returned v'∧Que w' w.heap.size 2 v' s.n xs∧Ext w w':=by
 obtain ⟨j0,hj0,hy0,hy1,hy2⟩:=info_parts infoVar
 have hnl:∀ (W:World) (a:Option Addr) (n c n' c':Nat),(binOp .eql 59 (.slice a n c) (.slice none n' c')).run Tryz.prog W=.ok (.bool a.isNone) W:=fun W a n c n' c'=>Lib.run_eql_slice_nil W _ _ a n c n' c' Tryz.underlying59
 have HS:=Lib.hid (fun (W:World) (x:Ext w W)=>(h.ext x).src (P:=Tryz.prog) Tryz.underlying59 h1)
 have H:=Lib.hid h
 have hlen:=h.len
 obtain ⟨a,n,c,b,o⟩:=s
 simp only [SlD.v] at HS
 simp only at hl hlen ⊢
 clear h h1
 cases a with
 | none =>
  have h0:n=0:=Nat.eq_zero_of_not_pos fun h0=>by have:=H.out.ha h0;cases this
  subst h0
  obtain rfl:xs=[]:=List.eq_nil_of_length_eq_zero (by rw [hlen,Nat.zero_mul])
  clear hlen
  go_enter Tryz.func53,Tryz.ntmps53
  go_wp2_with fail
  go_ret
  exact ⟨_,rfl,Que.nil _ _ _,Ext.refl _⟩
 | some a =>
  go_enter Tryz.func53,Tryz.ntmps53
  go_wp2_with (at_builtin;refine wpList_append_que _ rfl _ _ 59 59 rfl (base:=w.heap.size) (e:=94) (size:=2) j0 (.agg #[.string ⟨#[]⟩,.int .i64 0]) 24 Tryz.underlying59 hj0 hy0 hy1 hy2 rfl rfl (v:=.slice (some ⟨w.heap.size,0,none⟩) 0 0) (n:=0) (xs:=[]) ⟨rfl,.inl ⟨_,rfl,rfl,fun a e=>by cases e;exact Nat.le_refl _⟩⟩ (by simp) (.slice (some a) n c) n xs rfl (HS.out _ (Ext.alloc _ _)) (by unfold maxLen;omega) (by omega) ?_;rintro v5 w5 hq5 hg5 -;have H5:=Lib.hid (And.intro hq5 hg5);clear hq5 hg5)
  go_ret
  refine ⟨_,rfl,?_,?_⟩
  ·have:=H5.out.1
   rw [Nat.zero_add,List.nil_append] at this
   exact this
  ·exact ((Below.refl _ w).alloc (Nat.le_refl _) _).grown H5.out.2 (by simp) (by intro k hk;simp [Value.ownBlock] at hk;omega)
set_option maxHeartbeats 1000000 in
theorem cloneAssign_any (w : World) (s : SlD) (xs : List Value) (h : RowM w s 2 xs) (hl : s.n ≤ 1000) (h1 : ∀ u ∈ xs, u.oneCell' = true) :
    Calls Tryz.prog 54 #[.slice s.a s.n s.c] w fun e w'=>∃ v',e=.returned v'∧Que w' w.heap.size 2 v' s.n xs∧Ext w w':=by
 obtain ⟨j0,hj0,hy0,hy1,hy2⟩:=info_parts infoAsg
 have hnl:∀ (W:World) (a:Option Addr) (n c n' c':Nat),(binOp .eql 63 (.slice a n c) (.slice none n' c')).run Tryz.prog W=.ok (.bool a.isNone) W:=fun W a n c n' c'=>Lib.run_eql_slice_nil W _ _ a n c n' c' Tryz.underlying63
 have HS:=Lib.hid (fun (W:World) (x:Ext w W)=>(h.ext x).src (P:=Tryz.prog) Tryz.underlying63 h1)
 have H:=Lib.hid h
 have hlen:=h.len
 obtain ⟨a,n,c,b,o⟩:=s
 simp only [SlD.v] at HS
 simp only at hl hlen ⊢
 clear h h1
 cases a with
 | none =>
  have h0:n=0:=Nat.eq_zero_of_not_pos fun h0=>by have:=H.out.ha h0;cases this
  subst h0
  obtain rfl:xs=[]:=List.eq_nil_of_length_eq_zero (by rw [hlen,Nat.zero_mul])
  clear hlen
  go_enter Tryz.func54,Tryz.ntmps54
  go_wp2_with fail
  go_ret
  exact ⟨_,rfl,Que.nil _ _ _,Ext.refl _⟩
 | some a =>
  go_enter Tryz.func54,Tryz.ntmps54
  go_wp2_with (at_builtin;refine wpList_append_que _ rfl _ _ 63 63 rfl (base:=w.heap.size) (e:=97) (size:=2) j0 (.agg #[.int .i64 0,.int .i64 0]) 16 Tryz.underlying63 hj0 hy0 hy1 hy2 rfl rfl (v:=.slice (some ⟨w.heap.size,0,none⟩) 0 0) (n:=0) (xs:=[]) ⟨rfl,.inl ⟨_,rfl,rfl,fun a e=>by cases e;exact Nat.le_refl _⟩⟩ (by simp) (.slice (some a) n c) n xs rfl (HS.out _ (Ext.alloc _ _)) (by unfold maxLen;omega) (by omega) ?_;rintro v5 w5 hq5 hg5 -;have H5:=Lib.hid (And.intro hq5 hg5);clear hq5 hg5)
  go_ret
  refine ⟨_,rfl,?_,?_⟩
  ·have:=H5.out.1
   rw [Nat.zero_add,List.nil_append] at this
   exact this
  ·exact ((Below.refl _ w).alloc (Nat.le_refl _) _).grown H5.out.2 (by simp) (by intro k hk;simp [Value.ownBlock] at hk;omega)
theorem varCs_one (T:Tr) (k:Nat):∀ u∈T.varCs k,u.oneCell'=true:=by
 intro u hu
 obtain ⟨i,_,h⟩:=List.mem_flatMap.1 hu
 simp at h
 rcases h with rfl | rfl <;> rfl
theorem asgCs_one (T:Tr) (k i:Nat):∀ u∈T.asgCs k i,u.oneCell'=true:=by
 intro u hu
 obtain ⟨j,_,h⟩:=List.mem_flatMap.1 hu
 simp at h
 rcases h with rfl | rfl <;> rfl
theorem cells_two {w : World} {b o n : Nat} {f g : Nat → Value} (h0 : ∀ i, i < n → w.cell? ⟨b, o + i * 2, none⟩ = some (f i)) (h1 : ∀ i, i < n → w.cell? ⟨b, o + i * 2 + 1, none⟩ = some (g i)) :
    ∀ j,j<n*2→w.cell? ⟨b,o+j,none⟩=((List.range n).flatMap fun i=>[f i,g i])[j]?:=by
 intro j hj
 obtain ⟨i,r,hr,rfl⟩:∃ i r,r<2∧j=i*2+r:=⟨j / 2,j % 2,Nat.mod_lt _ (by omega),by omega⟩
 have hi:i<n:=by omega
 rw [flat_get (m:=2) (fun _=>rfl) hr,range_get' hi,←Nat.add_assoc]
 rcases (show r=0∨r=1 by omega) with rfl | rfl
 ·exact h0 i hi
 ·exact h1 i hi
def TM.vS (T:TM) (k:Nat):SlD:=⟨T.va k,T.vn k,T.vc k,T.vb k,T.vo k⟩
def TM.aS (T:TM) (k i:Nat):SlD:=⟨T.aa k i,T.an k i,T.ac k i,T.ab k i,T.ao k i⟩
theorem TM.At.vM {T:TM} {w:World} (h:T.At w) {k:Nat} (hk:k<T.n):RowM w (T.vS k) 2 (T.varCs k):=
 ⟨h.V.hv k hk,h.V.vc k hk,by unfold Tr.varCs;rw [flat_len (m:=2) fun _=>rfl,List.length_range];rfl,fun h0=>h.V.va k hk h0,fun h0=>h.V.vb k hk h0 w (Ext.refl _),cells_two (fun i hi=>h.V.v0 w (Ext.refl _) k i hk hi) (fun i hi=>h.V.v1 w (Ext.refl _) k i hk hi)⟩
theorem TM.At.aM {T:TM} {w:World} (h:T.At w) {k i:Nat} (hk:k<T.n) (hi:i<T.en k):RowM w (T.aS k i) 2 (T.asgCs k i):=
 ⟨h.A.ha k i hk hi,h.A.ac k i hk hi,by unfold Tr.asgCs;rw [flat_len (m:=2) fun _=>rfl,List.length_range];rfl,fun h0=>h.A.aa k i hk hi h0,fun h0=>h.A.ab k i hk hi h0 w (Ext.refl _),cells_two (fun j hj=>h.A.a0 w (Ext.refl _) k i j hk hi hj) (fun j hj=>h.A.a1 w (Ext.refl _) k i j hk hi hj)⟩
theorem Que.own_in {w:World} {base size:Nat} {v:Value} {n:Nat} {xs:List Value} (h:Que w base size v n xs) (hn:0<n):∀ g,v.ownBlock=some g→base≤g∧g<w.heap.size:=by
 intro g e
 rcases h.val with ⟨_,_,h0,_⟩ | ⟨g',off,cap,rfl,h1,h2,_⟩
 ·omega
 ·have:g'=g:=by simpa [Value.ownBlock] using e
  subst this;exact ⟨h1,h2⟩
theorem ApI.row {wL wK : World} {bmf : Bool → Nat} {LM : Bool → List ((Int × Int) × Value)} {G : Bool → NN → List Ins} {wr : World} (h : ApI wL wK bmf LM G wr) (c : Bool) (y : NN) (o : Obj) :
    Que (wr.putObj (bmf c) o) wK.heap.size 5 (nvI (LM c) y) (G c y).length (insCells (G c y)):=
 (h.rows c y).same' (by simp) fun g e=>World.putObj_heap_other (by have:=(h.own c y g e).1;have:=(h.hb c).2;omega)
theorem ApI.done {wL wK : World} {bmf : Bool → Nat} {LM : Bool → List ((Int × Int) × Value)} {G G' : Bool → NN → List Ins} {wr : World} (h : ApI wL wK bmf LM G wr) (c : Bool) (y : NN) {o : Obj} {L' : List ((Int × Int) × Value)} {s : Nat} {mt : TypeId}
    (hb:EBack (wr.putObj (bmf c) o) (bmf c) L' (evI y) s) (hu:∀ v,updE (evI y) v L'=updE (evI y) v (LM c)) {v':Value} {w':World} {n:Nat} {xs:List Value} (hq:Que w' wK.heap.size 5 v' n xs)
    (hg:(wr.putObj (bmf c) o).grownBy w' (nvI (LM c) y).ownBlock) (hat:v'.ownBlock=(nvI (LM c) y).ownBlock∨v'.ownBlock=some (wr.putObj (bmf c) o).heap.size)
    (hn0:0<n) (hn:n=(G' c y).length) (hxs:xs=insCells (G' c y)) (hG:∀ d z,(d,z)≠(c,y)→G' d z=G d z) :
    ∃ o2,(Instr.entryStore mt (.map (some (bmf c))) (goInt (s:Nat)) v').run Tryz.prog w'=.ok () (w'.putObj (bmf c) o2)∧ApI wL wK bmf (setB c (updE (evI y) v' (LM c)) LM) G' (w'.putObj (bmf c) o2)∧
     (∀ g,g<wr.heap.size→g≠bmf c→(nvI (LM c) y).ownBlock≠some g→(w'.putObj (bmf c) o2).heap[g]?=wr.heap[g]?)∧wr.heap.size≤(w'.putObj (bmf c) o2).heap.size:=by
 have hps:(wr.putObj (bmf c) o).heap.size=wr.heap.size:=by simp
 have hbl:=(h.mp c).lt
 have hne:∀ d z g,(nvI (LM d) z).ownBlock=some g→g≠bmf c:=fun d z g e=>by
  have:=(h.own d z g e).1;have:=(h.hb c).2;omega
 obtain ⟨o2,h1,h2⟩:=(hb.same (w':=w') (hg.block _ (by rw [hps];exact hbl) fun e=>hne c y _ e.symm rfl)).store (mt:=mt) v'
 have hkp:∀ g,g<wr.heap.size→g≠bmf c→(nvI (LM c) y).ownBlock≠some g→w'.heap[g]?=wr.heap[g]?:=fun g k1 k2 k3=>(hg.block g (by rw [hps];exact k1) fun e=>k3 e.symm).trans (World.putObj_heap_other k2)
 refine ⟨o2,h1,?_,fun g k1 k2 k3=>(World.putObj_heap_other k2).trans (hkp g k1 k2 k3),by have:=hg.size;rw [hps] at this;simp;exact this⟩
 rw [hu] at h2
 refine h.upd c y (W:=w') ?_ (by have:=hg.size;rw [hps] at this;exact this) hkp (by subst hn hxs;exact hq) hG (fun g e=>?_) h2
 ·refine Below.grown (show Below wL.heap.size wL _ from (h.x.putObj (h.hb c).1 o)) hg (by rw [hps];exact h.x.le) fun g e=>?_
  have k1:=(h.own c y g e).1
  have k2:=h.hb c
  omega
 ·refine ⟨?_,(hq.own_in hn0 g e).2⟩
  rcases hat with h3 | h3
  ·exact .inl (h3.symm.trans e)
  ·right
   rw [h3] at e
   have:(wr.putObj (bmf c) o).heap.size=g:=by simpa using e
   omega
theorem RowM.new (w:World) (cs:List Value) (t:TypeId) (size:Nat) (h:cs.length=size):RowM (w.alloc (.cells cs.toArray t)) ⟨some ⟨w.heap.size,0,none⟩,1,1,w.heap.size,0⟩ size cs:=
 ⟨by show (1:Nat)≤_;omega,Nat.le_refl _,by rw [h];show size=1*size;omega,fun _=>rfl,fun _=>by show w.heap.size<_;simp,fun j hj=>by
  show (w.alloc (.cells cs.toArray t)).cell? ⟨w.heap.size,0+j,none⟩=_
  rw [Nat.zero_add,World.cell?_alloc_new];simp⟩
theorem EMap.get {w : World} {b : Nat} {L : List ((Int × Int) × Value)} {mt et : TypeId} (h : EMap w b L) (hu : Tryz.prog.underlying mt = some (.map 79 et)) {z : Value} (hz : (zeroValue et).run Tryz.prog w = .ok z w) (y : Int × Int) :
    (Instr.lookup mt (.map (some b)) (evV y) false).run Tryz.prog w=.ok ((lookE y L).getD z) w:=by
 cases hl:lookE y L with
 | some v => exact h.look hu hl
 | none => exact h.none hu hz hl
theorem zeroEvs (w:World):(zeroValue 60).run Tryz.prog w=.ok (.slice none 0 0) w:=by kernel_rfl
section
variable {P:Program} {ops:Array Oper} {Q:Exit→Act→World→Prop} {md:Region.Mode} {S R:World→Prop} {t:Nat}
theorem wpAnyT_late (S' : World → Prop) (hS : ∀ w, S' w → S w) (j : Nat) (hj : t ≤ j) : ∀ (fuel : Nat) (listed : Array Bool) (a : Act) (w : World), (decide (j < ops.size) && listed.getD j true) = true →
    wpAnyT P md ops Q S' (fun _=>True) ops.size fuel listed a w→wpAnyT P md ops Q S R t fuel listed a w
 | 0,_,_,_,_,h => h
 | fuel+1,listed,a,w,hl,h => by
  rw [Bool.and_eq_true] at hl
  have hlt:=of_decide_eq_true hl.1
  refine ⟨h.1,fun i hi=>wpOp_mono (fun a' w' h'=>⟨⟨hS _ h'.1.1,fun hf=>?_⟩,?_⟩) (h.2 i hi)⟩
  ·have:=hf.of_set j hj hlt
   rw [hl.2] at this;cases this
  ·refine wpAnyT_late S' hS j hj fuel _ a' w' ?_ h'.2
   rw [Bool.and_eq_true]
   refine ⟨hl.1,?_⟩
   by_cases e:i=j
   ·subst e;exact getD_set_eq _ _
   ·rw [getD_set_ne true e];exact hl.2
end
def Chg (S:Nat→Prop) (w w':World):Prop:=Below 0 w w'∧∀ g,g<w.heap.size→¬S g→w'.heap[g]?=w.heap[g]?
theorem Chg.le {S:Nat→Prop} {w w':World} (h:Chg S w w'):w.heap.size≤w'.heap.size:=h.1.size
theorem Chg.refl (S:Nat→Prop) (w:World):Chg S w w:=⟨Below.refl _ _,fun _ _ _=>rfl⟩
theorem Chg.trans {S:Nat→Prop} {a b c:World} (h:Chg S a b) (k:Chg S b c):Chg S a c:=⟨h.1.trans k.1,fun g hg hs=>(k.2 g (Nat.lt_of_lt_of_le hg h.le) hs).trans (h.2 g hg hs)⟩
theorem Chg.mono {S S':Nat→Prop} {a b:World} (h:Chg S a b) (hs:∀ g,g<a.heap.size→S g→S' g):Chg S' a b:=⟨h.1,fun g hg hn=>h.2 g hg fun k=>hn (hs g hg k)⟩
theorem Ext.chg {w w':World} (h:Ext w w') (S:Nat→Prop):Chg S w w':=⟨Below.mono h (Nat.zero_le _),fun g hg _=>h.block g hg⟩
theorem Chg.ext {S:Nat→Prop} {wL w w':World} (x:Ext wL w) (h:Chg S w w') (hs:∀ g,S g→wL.heap.size≤g):Ext wL w':=
 ⟨h.1.os.trans x.os,h.1.tape.trans x.tape,h.1.output.trans x.output,Nat.le_trans x.le h.le,fun k hk=>(h.2 k (Nat.lt_of_lt_of_le hk x.le) fun hS=>by have:=hs k hS;omega).trans (x.block k hk)⟩
theorem Chg.set {S:Nat→Prop} {w W:World} (h:Chg S w W) (p:Addr) (v:Value) (hp:S p.block∨w.heap.size≤p.block):Chg S w (W.setCell p v):=
 ⟨h.1.setCell (Nat.zero_le _) v,fun g hg hn=>(Below.heap_setCell _ _ _ _ (fun e=>by
  subst e
  rcases hp with hp | hp
  ·exact hn hp
  ·omega)).trans (h.2 g hg hn)⟩
theorem Chg.grown {S:Nat→Prop} {w W W':World} (h:Chg S w W) {v:Option Nat} (hg:W.grownBy W' v) (hv:∀ g,v=some g→S g∨w.heap.size≤g):Chg S w W':=
 ⟨h.1.grown hg (Nat.zero_le _) (fun _ _=>Nat.zero_le _),fun g hg' hn=>(hg.block g (Nat.lt_of_lt_of_le hg' h.le) fun e=>by
  rcases hv g e.symm with k | k
  ·exact hn k
  ·omega).trans (h.2 g hg' hn)⟩
theorem Chg.then {S S':Nat→Prop} {a b c:World} (h:Chg S a b) (k:Chg S' b c) (hs:∀ g,g<a.heap.size→S' g→S g):Chg S a c:=
 ⟨h.1.trans k.1,fun g hg hn=>(k.2 g (Nat.lt_of_lt_of_le hg h.le) fun e=>hn (hs g hg e)).trans (h.2 g hg hn)⟩
theorem Hold.chg {S:Nat→Prop} {w w':World} {b:Nat} {c:Array Value} (h:Hold w b c) (k:Chg S w w') (hb:¬S b):Hold w' b c:=by
 have hl:=h.lt
 obtain ⟨t,h⟩:=h
 exact ⟨t,(k.2 b hl hb).trans h⟩
structure AplO (T:Tr) (N:List Syn) (F:List Nat) (wE:World) (bo k:Nat) (pa:Nat→PAd) (vo:Value) (wr:World):Prop where
 c:Chg (· = bo) wE wr
 lt:bo<wE.heap.size
 box:Hold wr bo #[vo]
 que:Que wr wE.heap.size 3 vo k (T.prCs N F pa k)
 pr:∀ j,j<k→PrM T N F wr j (pa j)
 blk:∀ j,j<k→∀ g,(pa j).Blk (T.en j) g→wE.heap.size≤g∧g<wr.heap.size∧vo.ownBlock≠some g
 own:∀ g,vo.ownBlock=some g→wE.heap.size≤g∧g<wr.heap.size
theorem AplO.start {T:Tr} {N:List Syn} {F:List Nat} {wE:World} {bo:Nat} (h:Hold wE bo #[.slice none 0 0]) (pa:Nat→PAd):AplO T N F wE bo 0 pa (.slice none 0 0) wE:=
 ⟨Chg.refl _ _,h.lt,h,Que.nil _ _ _,fun _ h=>absurd h (Nat.not_lt_zero _),fun _ h=>absurd h (Nat.not_lt_zero _),fun _ e=>by cases e⟩
structure AplE (T:Tr) (N:List Syn) (F:List Nat) (wS:World) (b k:Nat) (x0 x1:Value) (i:Nat) (ad:Nat→SlD) (vy:Value) (wr:World):Prop where
 c:Chg (· = b) wS wr
 lt:b<wS.heap.size
 box:Hold wr b #[x0,x1,vy]
 que:Que wr wS.heap.size 5 vy (T.apl N F k i).length (T.aplCs N F k ad i)
 a:∀ j,j<i→RowM wr (ad j) 2 (T.asgCs k j)∧(ad j).n=T.an k j
 blk:∀ j,j<i→0<(ad j).n→wS.heap.size≤(ad j).b∧(ad j).b<wr.heap.size∧vy.ownBlock≠some (ad j).b
 own:∀ g,vy.ownBlock=some g→wS.heap.size≤g∧g<wr.heap.size
theorem AplE.start {T:Tr} {N:List Syn} {F:List Nat} {wS:World} {b k:Nat} {x0 x1:Value} (h:Hold wS b #[x0,x1,.slice none 0 0]) (ad:Nat→SlD):AplE T N F wS b k x0 x1 0 ad (.slice none 0 0) wS:=
 ⟨Chg.refl _ _,h.lt,h,Que.nil _ _ _,fun _ h=>absurd h (Nat.not_lt_zero _),fun _ h=>absurd h (Nat.not_lt_zero _),fun _ e=>by cases e⟩
theorem AplE.next {T : Tr} {N : List Syn} {F : List Nat} {wS : World} {b k : Nat} {x0 x1 : Value} {i : Nat} {ad : Nat → SlD} {vy : Value} {wr : World} (h : AplE T N F wS b k x0 x1 i ad vy wr) {W : World} {s : SlD} {v' : Value} {m : Nat}
    (hm:wr.heap.size≤m) (hc:Chg (fun g=>g=b∨vy.ownBlock=some g) wr W) (hs:RowM W s 2 (T.asgCs k i)) (hsn:s.n=T.an k i) (hsb:0<s.n→wr.heap.size≤s.b∧s.b<m)
    (hb:Hold W b #[x0,x1,v']) (hq:Que W wS.heap.size 5 v' (T.apl N F k (i+1)).length (T.aplCs N F k (setS ad i s) (i+1))) (hat:∀ g,v'.ownBlock=some g→vy.ownBlock=some g∨m≤g) :
    AplE T N F wS b k x0 x1 (i+1) (setS ad i s) v' W:=by
 have hn0:0<(T.apl N F k (i+1)).length:=by rw [apl_len_succ];omega
 have hst:=h.c.le
 have hlt:=h.lt
 refine ⟨h.c.then hc fun g hg k=>k.elim id fun e=>by have:=(h.own g e).1;omega,hlt,hb,hq,fun j hj=>?_,fun j hj h0=>?_,fun g e=>hq.own_in hn0 g e⟩
 ·by_cases e:j=i
  ·subst e;rw [setS_eq];exact ⟨hs,hsn⟩
  ·rw [setS_ne ad s e]
   have hji:j<i:=by omega
   refine ⟨(h.a j hji).1.same hc.le fun h0=>?_,(h.a j hji).2⟩
   obtain ⟨k1,k2,k3⟩:=h.blk j hji h0
   exact hc.2 _ k2 fun k=>by
    rcases k with k | k
    ·omega
    ·exact k3 k
 ·by_cases e:j=i
  ·subst e
   rw [setS_eq] at h0 ⊢
   have h1:=hsb h0
   refine ⟨by omega,Nat.lt_of_lt_of_le (hs.hb h0) (Nat.le_refl _),fun e2=>?_⟩
   rcases hat _ e2 with k1 | k1
   ·have:=(h.own _ k1).2;omega
   ·omega
  ·rw [setS_ne ad s e] at h0 ⊢
   have hji:j<i:=by omega
   obtain ⟨k1,k2,k3⟩:=h.blk j hji h0
   refine ⟨k1,Nat.lt_of_lt_of_le k2 hc.le,fun e2=>?_⟩
   rcases hat _ e2 with k4 | k4
   ·exact k3 k4
   ·omega
theorem AplO.next {T : Tr} {N : List Syn} {F : List Nat} {wE wr : World} {bo k : Nat} {pa : Nat → PAd} {vo : Value} (h : AplO T N F wE bo k pa vo wr) {wS wi : World} {b : Nat} {x0 x1 : Value} {ad : Nat → SlD} {vy : Value} (hS : Chg (fun _ => False) wr wS) (hb : wr.heap.size ≤ b)
    (hE:AplE T N F wS b k x0 x1 (T.en k) ad vy wi) {sv se:SlD} (hv:RowM wS sv 2 (T.varCs k)) (hvn:sv.n=T.vn k) (hvb:0<sv.n→wr.heap.size≤sv.b∧sv.b≠b)
    (he:RowM wi se 5 (T.aplCs N F k ad (T.en k))) (hen:se.n=(T.apl N F k (T.en k)).length) (heb:0<se.n→vy.ownBlock=some se.b)
    {W:World} {v':Value} (hc:Chg (fun g=>g=bo∨vo.ownBlock=some g) wi W) (ho:Hold W bo #[v']) (hq:Que W wE.heap.size 3 v' (k+1) (T.prCs N F (setS pa k ⟨sv,se,ad⟩) (k+1))) (hat:∀ g,v'.ownBlock=some g→vo.ownBlock=some g∨wi.heap.size≤g) :
    AplO T N F wE bo (k+1) (setS pa k ⟨sv,se,ad⟩) v' W:=by
 have h1:=h.c.le
 have h2:=hS.le
 have h3:=hE.c.le
 have h4:=hc.le
 have h5:=h.lt
 have hwi:Chg (fun _=>False) wr wi:=hS.then hE.c fun g hg e=>by omega
 have hall:Chg (fun g=>g=bo∨vo.ownBlock=some g) wr W:=(hwi.mono fun _ _ h=>h.elim).trans hc
 have hown:∀ g,vo.ownBlock=some g→g<wr.heap.size:=fun g e=>(h.own g e).2
 -- the blocks of the new process
 have hnb:∀ g,PAd.Blk ⟨sv,se,ad⟩ (T.en k) g→wr.heap.size≤g∧g<wi.heap.size:=fun g k=>by
  rcases k with ⟨k0,rfl⟩ | ⟨k0,rfl⟩ | ⟨i,hi,k0,rfl⟩
  ·exact ⟨(hvb k0).1,Nat.lt_of_lt_of_le (hv.hb k0) h3⟩
  ·exact ⟨Nat.le_trans h2 (hE.own _ (heb k0)).1,(hE.own _ (heb k0)).2⟩
  ·have:=hE.blk i hi k0
   exact ⟨Nat.le_trans h2 this.1,this.2.1⟩
 have hkeep:∀ g,PAd.Blk ⟨sv,se,ad⟩ (T.en k) g→W.heap[g]?=wi.heap[g]?:=fun g kb=>by
  obtain ⟨k1,k2⟩:=hnb g kb
  exact hc.2 g k2 fun e=>by
   rcases e with e | e
   ·omega
   ·have:=hown g e;omega
 refine ⟨h.c.then hall fun g hg e=>e.elim id fun e=>by have:=(h.own g e).1;omega,h5,ho,hq,fun j hj=>?_,fun j hj g kb=>?_,fun g e=>hq.own_in (Nat.succ_pos _) g e⟩
 ·by_cases e:j=k
  ·subst e
   rw [setS_eq]
   exact PrM.same (w:=wi) ⟨hv.same h3 fun h0=>hE.c.2 _ (hv.hb h0) (hvb h0).2,hvn,he,hen,fun i hi=>hE.a i hi⟩ h4 hkeep
  ·rw [setS_ne pa _ e]
   have hjk:j<k:=by omega
   refine (h.pr j hjk).same hall.le fun g kb=>?_
   obtain ⟨k1,k2,k3⟩:=h.blk j hjk g kb
   exact hall.2 g k2 fun e=>by
    rcases e with e | e
    ·omega
    ·exact k3 e
 ·by_cases e:j=k
  ·subst e
   rw [setS_eq] at kb
   obtain ⟨k1,k2⟩:=hnb g kb
   refine ⟨by omega,by omega,fun e2=>?_⟩
   rcases hat g e2 with k4 | k4
   ·have:=hown g k4;omega
   ·omega
  ·rw [setS_ne pa _ e] at kb
   have hjk:j<k:=by omega
   obtain ⟨k1,k2,k3⟩:=h.blk j hjk g kb
   refine ⟨k1,by have:=hall.le;omega,fun e2=>?_⟩
   rcases hat g e2 with k4 | k4
   ·exact k3 k4
   ·have:=hwi.le;omega
theorem put3 {w17 W : World} {bn : Nat} {x0 x1 x2 : Value} (h : Hold W bn #[x0, x1, x2]) (hx : Ext w17 W) (hb : w17.heap.size ≤ bn) (y0 y1 y2 : Value) :
    Hold (((W.setCell ⟨bn,0,none⟩ y0).setCell ⟨bn,1,none⟩ y1).setCell ⟨bn,2,none⟩ y2) bn #[y0,y1,y2]∧Ext w17 (((W.setCell ⟨bn,0,none⟩ y0).setCell ⟨bn,1,none⟩ y1).setCell ⟨bn,2,none⟩ y2)∧
     (∀ g,g≠bn→(((W.setCell ⟨bn,0,none⟩ y0).setCell ⟨bn,1,none⟩ y1).setCell ⟨bn,2,none⟩ y2).heap[g]?=W.heap[g]?)∧W.heap.size≤(((W.setCell ⟨bn,0,none⟩ y0).setCell ⟨bn,1,none⟩ y1).setCell ⟨bn,2,none⟩ y2).heap.size:=
 ⟨((h.set 0 y0).set 1 y1).set 2 y2,((hx.setCell (p:=⟨bn,0,none⟩) hb y0).setCell (p:=⟨bn,1,none⟩) hb y1).setCell (p:=⟨bn,2,none⟩) hb y2,
  fun g hg=>(Below.heap_setCell _ _ _ _ hg).trans ((Below.heap_setCell _ _ _ _ hg).trans (Below.heap_setCell _ _ _ _ hg)),by simp⟩
theorem Hold.boxS {S:Nat→Prop} {w:World} {b:Nat} {c:Array Value} (h:Hold w b c) (hb:¬S b):(∀ w',Chg S w w'→b<w'.heap.size)∧∀ w',Chg S w w'→∀ i,w'.cell? ⟨b,i,none⟩=c[i]?:=
 ⟨fun _ k=>(h.chg k hb).lt,fun _ k i=>(h.chg k hb).cell0 i⟩
theorem Que.chg {S:Nat→Prop} {w w':World} {base size:Nat} {v:Value} {n:Nat} {xs:List Value} (h:Que w base size v n xs) (k:Chg S w w') (hs:∀ g,v.ownBlock=some g→g<w.heap.size∧¬S g):Que w' base size v n xs:=
 h.same' k.le fun g e=>k.2 g (hs g e).1 (hs g e).2
theorem EMap.chg {S:Nat→Prop} {w w':World} {b:Nat} {L:List ((Int × Int) × Value)} (h:EMap w b L) (k:Chg S w w') (hs:¬S b):EMap w' b L:=h.same (k.2 b h.lt hs)
theorem Chg.drew {S:Nat→Prop} {w w':World} (h:Chg S w w'):Chg S w w'.drew:=h.trans ((Ext.refl w').drew.chg S)
theorem Chg.alloc {S:Nat→Prop} {w w':World} (h:Chg S w w') (o:Obj):Chg S w (w'.alloc o):=h.trans ((Ext.alloc w' o).chg S)
theorem freeL_mem {T:Tr} {m:Nat}:∀ {k:Nat},m∈T.freeL k↔m<k∧T.Free m
 | 0 => by simp [Tr.freeL]
 | k+1 => by
  unfold Tr.freeL
  rw [List.mem_append,freeL_mem (k:=k)]
  constructor
  ·rintro (⟨h1,h2⟩ | h)
   ·exact ⟨by omega,h2⟩
   ·split at h
    ·next h0=>simp at h;subst h;exact ⟨by omega,h0⟩
    ·simp at h
  ·rintro ⟨h1,h2⟩
   by_cases e:m=k
   ·subst e;right;rw [if_pos h2];simp
   ·exact .inl ⟨by omega,h2⟩
theorem insOk_of {T:Tr} (hn:T.n≤1000) {N:List Syn} (hN:SynOk T N) (k:Nat) (hk:k≤1000):InsOk T N (T.freeL k):=
 ⟨fun s hs=>by
  obtain ⟨⟨h1,h2,_,_⟩,⟨h3,h4,_,_⟩⟩:=hN s hs
  exact ⟨⟨by omega,by omega⟩,⟨by omega,by omega⟩⟩,fun m hm=>by
  have:=(freeL_mem.1 hm).1
  exact ⟨by omega,by omega⟩⟩
theorem AplO.fin {T : Tr} {N : List Syn} {F : List Nat} {wE wr : World} {bo : Nat} {pa : Nat → PAd} {oa : Option Addr} {oc : Nat} (h : AplO T N F wE bo T.n pa (.slice oa T.n oc) wr) (hn : T.n ≤ 1000) (hT : T.Ok) (hI : InsOk T N F) {p : Addr} {v : Value} (hp : p.block < wE.heap.size) :
    ∃ U:TM,U.At (wr.setCell p v)∧U.toTr=T.aplTr N F∧U.val=.agg #[.slice oa T.n oc]:=by
 have hs:∀ g,wE.heap.size≤g→(wr.setCell p v).heap[g]?=wr.heap[g]?:=fun g hg=>Below.heap_setCell _ _ _ _ (by omega)
 have hz:wr.heap.size≤(wr.setCell p v).heap.size:=by simp
 obtain ⟨⟨sa,sn,sc,sb,so⟩,e1,e2,hM,hb⟩:=RowM.que h.que (by omega)
 simp only [SlD.v,Value.slice.injEq] at e1 e2 hb
 obtain ⟨rfl,_,rfl⟩:=e1
 subst e2
 refine ⟨aplTM T N F ⟨oa,T.n,oc,sb,so⟩ pa,aplTM_at hT hI rfl (hM.same hz fun h0=>hs _ (hb h0).1) fun k hk=>(h.pr k hk).same hz fun g hg=>hs g (h.blk k hk g hg).1,rfl,rfl⟩
theorem Chg.cell {S:Nat→Prop} {w w':World} (h:Chg S w w') {a:Addr} {v:Value} (hc:w.cell? a=some v) (hs:¬S a.block):w'.cell? a=some v:=
 (World.cell?_of_block (w:=w) (a:=a) (h.2 _ (cell_lt hc) hs)).trans hc
end Go.Proofs.YtkhgpockmaghjaaGreat

namespace Go.Proofs.YtkhgpockmaghjaaGreat
open Go.RowKit
section
variable {P:Program} {ops:Array Oper} {Q:Exit→Act→World→Prop} {md:Region.Mode} {S R V:World→Prop} {t:Nat}
theorem wpAnyT_firstU {i : Nat} {oi : Oper} {v : Value} (hi : ops[i]? = some oi) (hsel : ∀ (j : Nat) (o : Oper) cs b, ops[j]? = some o → o.op ≠ .select cs b)
    (hQ:∀ c a w,Q (.panic c) (a.put oi.dst v) w→Q (.panic c) a w)
    (hV:∀ l w,S w→(Fresh ops t l→R w)→Fresh ops t l→V w)
    (hZ:∀ (j:Nat) (oj:Oper),ops[j]?=some oj→t≤j→(∀ e∈oj.after,Region.binds md e=true→e.on≠i)→∃ e∈oj.after,Region.binds md e=true∧t≤e.on∧e.on<ops.size)
    (hit:i<t):∀ (fuel:Nat) (listed:Array Bool) (a:Act) (w:World),
     (∀ j oj,ops[j]?=some oj→j≠i→listed.getD j true=false→(∀ e∈oj.after,Region.binds md e=true→e.on≠i)→oi.apart ops oj=true)→
     i∈Region.ready md ops listed→YieldsIf P ops V oi v a→Fresh ops t listed→S w→(Fresh ops t listed→R w)→
     wpAnyT P md ops Q S R t fuel (listed.setIfInBounds i true) (a.put oi.dst v) w→wpAnyT P md ops Q S R t (fuel+1) listed a w:=by
 intro fuel
 induction fuel with
 | zero =>
  intro listed a w _ hr hy hz hS hR H
  refine ⟨fun h=>(by rw [h] at hr;cases hr),fun j hj=>?_⟩
  by_cases hji:j=i
  ·subst hji;exact hy.wpOp hi (hV listed w hS hR hz) ⟨⟨hS,fun h=>hR h.of_set⟩,H⟩
  ·have:=ready_mono hj hji
   rw [H.1] at this
   cases this
 | succ fuel ih =>
  intro listed a w hfree hr hy hz hS hR H
  refine ⟨fun h=>(by rw [h] at hr;cases hr),fun j hj=>?_⟩
  by_cases hji:j=i
  ·subst hji;exact hy.wpOp hi (hV listed w hS hR hz) ⟨⟨hS,fun h=>hR h.of_set⟩,H⟩
  ·have h1:=H.2 j (ready_mono hj hji)
   obtain ⟨hjun,oj,hoj,hall⟩:=mem_ready.1 hj
   have hnot:∀ e∈oj.after,Region.binds md e=true→e.on≠i:=fun e he hb heq=>by
    have h1:=hall e he hb
    have h0:=(mem_ready.1 hr).1
    rw [heq] at h1
    rcases Nat.lt_or_ge i listed.size with h' | h'
    ·simp [h'] at h0 h1;rw [h0] at h1;cases h1
    ·simp [Array.getElem?_eq_none h'] at h1
   have hjt:j<t:=Nat.lt_of_not_le fun hle=>by
    obtain ⟨e,he,hb,h2,h3⟩:=hZ j oj hoj hle hnot
    have h4:=hall e he hb
    have h5:=hz e.on h2 h3
    rcases Nat.lt_or_ge e.on listed.size with h' | h'
    ·simp [h'] at h4 h5;rw [h5] at h4;cases h4
    ·simp [Array.getElem?_eq_none h'] at h4
   have h2:=wpOp_putIf hoj (hfree j oj hoj hji hjun hnot) (fun cs b=>hsel i oi cs b hi) (fun cs b=>hsel j oj cs b hoj) hQ hy h1
   have hfree' : ∀ k ok, ops[k]? = some ok → k ≠ i → (listed.setIfInBounds j true).getD k true = false →
       (∀ e∈ok.after,Region.binds md e=true→e.on≠i)→oi.apart ops ok=true:=fun k ok hk hki hun hno=>by
    refine hfree k ok hk hki ?_ hno
    by_cases hjk:j=k
    ·subst hjk;exact hjun
    ·rw [getD_set_ne true hjk] at hun;exact hun
   have hi':=ready_mono hr (Ne.symm hji)
   have hcomm:∀ (l:Array Bool),(l.setIfInBounds i true).setIfInBounds j true=(l.setIfInBounds j true).setIfInBounds i true:=fun l=>Array.setIfInBounds_comm _ _ (Ne.symm hji)
   refine wpOp_mono (fun a' w' h3=>?_) h2
   have hRj:Fresh ops t (listed.setIfInBounds j true)→R w':=fun hf=>h3.2.1.2 (by rw [hcomm];exact hf.set hit)
   refine ⟨⟨h3.2.1.1,hRj⟩,ih (listed.setIfInBounds j true) a' w' hfree' hi' h3.1 (hz.set hjt) h3.2.1.1 hRj ?_⟩
   rw [←hcomm]
   exact h3.2.2
def lateWaitU (md:Region.Mode) (l:List Oper) (t i:Nat):Bool:=(l.zipIdx.drop t).all fun x=>x.1.after.toList.any fun e=>Region.binds md e && (e.on == i || (decide (t≤e.on) && decide (e.on<l.length)))
theorem lateWaitU_spec {l : List Oper} {i j : Nat} {oj : Oper} (h : lateWaitU md l t i = true) (hj : l.toArray[j]? = some oj) (hle : t ≤ j) (hn : ∀ e ∈ oj.after, Region.binds md e = true → e.on ≠ i) :
    ∃ e∈oj.after,Region.binds md e=true∧t≤e.on∧e.on<l.toArray.size:=by
 unfold lateWaitU at h
 rw [List.all_eq_true] at h
 have hj':l[j]?=some oj:=by simpa using hj
 have hm:(oj,j)∈l.zipIdx.drop t:=by
  rw [List.mem_iff_getElem?]
  refine ⟨j - t,?_⟩
  rw [List.getElem?_drop,show t+(j - t)=j by omega,List.getElem?_zipIdx,hj']
  simp
 have h1:=h _ hm
 rw [List.any_eq_true] at h1
 obtain ⟨e,he,h2⟩:=h1
 rw [Bool.and_eq_true,Bool.or_eq_true,Bool.and_eq_true] at h2
 refine ⟨e,by simpa using he,h2.1,?_⟩
 rcases h2.2 with h3 | ⟨h3,h4⟩
 ·exact absurd (by simpa using h3) (hn e (by simpa using he) h2.1)
 ·exact ⟨of_decide_eq_true h3,by simpa using of_decide_eq_true h4⟩
theorem takeU {l : List Oper} (i : Nat) {oi : Oper} {v : Value} {fuel : Nat} {listed : Array Bool} {a : Act} {w : World} (hi : l[i]? = some oi)
    (hs:Region.noSelect l.toArray=true) (hf:Region.free md l.toArray listed i=true) (hr:(Region.ready md l.toArray listed).contains i=true)
    (hw:lateWaitU md l t i=true) (hl:(l.zipIdx.drop t).all (fun x=>!(listed.getD x.2 true))=true)
    (hQ:∀ c a w,Q (.panic c) (a.put oi.dst v) w→Q (.panic c) a w) (hit:i<t) (hy:YieldsIf P l.toArray (fun w=>S w∧R w) oi v a) (hS:S w) (hR:R w)
    (h:wpAnyT P md l.toArray Q S R t fuel (listed.setIfInBounds i true) (a.put oi.dst v) w):wpAnyT P md l.toArray Q S R t (fuel+1) listed a w:=by
 refine wpAnyT_firstU (V:=fun w=>S w∧R w) (by simpa using hi) (Region.noSelect_spec hs) hQ (fun _ _ h h2 h3=>⟨h,h2 h3⟩) (fun j oj h1 h2 h3=>lateWaitU_spec hw h1 h2 h3) hit fuel listed a w (Region.free_spec (by simpa using hi) hf) (by simpa using hr) hy ?_ hS (fun _=>hR) h
 intro j h1 h2
 rw [List.all_eq_true] at hl
 have h2':j<l.length:=by simpa using h2
 have hm:(l[j],j)∈l.zipIdx.drop t:=by
  rw [List.mem_iff_getElem?]
  refine ⟨j - t,?_⟩
  rw [List.getElem?_drop,show t+(j - t)=j by omega,List.getElem?_zipIdx,List.getElem?_eq_getElem h2']
  simp
 have:=hl _ hm
 simpa using this
end
end Go.Proofs.YtkhgpockmaghjaaGreat
