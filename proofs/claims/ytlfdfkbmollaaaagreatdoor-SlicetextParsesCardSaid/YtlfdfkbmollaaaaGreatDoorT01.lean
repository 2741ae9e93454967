/- Contracts and laws in plain Lean for RApp: group T01. -/
import Derived.Test.YtlfdfkbmollaaaaGreatDoorRows
import Derived.WalkKit
import Derived.WalkSpells
import Derived.WalkLawsBesides
import Derived.Deep.QuietTactic
import Derived.BigQuiet
import Derived.Lib.Hide
import Derived.Deep.Cut
import Derived.Deep.DeepCutAuto
import Derived.RangeFuncNested
import Derived.Deep.RegionHeld3
import Derived.Lib.QuietBelow
import Derived.StillTailTactics
import Derived.Deep.AppendSrc
import Derived.Deep.Upon
namespace Go.Proofs.YtlfdfkbmollaaaaGreatDoor
open Go.RowKit
def Ext (w w':World):Prop:=Below w.heap.size w w'
theorem Ext.refl (w:World):Ext w w:=Below.refl _ _
theorem Ext.trans {a b c:World} (h:Ext a b) (k:Ext b c):Ext a c:=Below.trans h (Below.mono k h.size)
theorem Ext.alloc (w:World) (o:Obj):Ext w (w.alloc o):=(Below.refl _ _).alloc (Nat.le_refl _) _
theorem Ext.alloc' {w w':World} (h:Ext w w') (o:Obj):Ext w (w'.alloc o):=h.trans (Ext.alloc _ _)
theorem Ext.drew {w w':World} (h:Ext w w'):Ext w w'.drew:=Below.drew h
theorem Ext.drewN {w w':World} (h:Ext w w') (n:Nat):Ext w (w'.drewN n):=below_drewN h n
theorem Ext.setCell {w w':World} (h:Ext w w') {p:Addr} (hp:w.heap.size≤p.block) (v:Value):Ext w (w'.setCell p v):=Below.setCell h hp v
theorem Ext.le {w w':World} (h:Ext w w'):w.heap.size≤w'.heap.size:=h.size
theorem Ext.below {w w':World} (h:Ext w w'):Below w.heap.size w w':=h
theorem cell_lt {w:World} {p:Addr} {v:Value} (hp:w.cell? p=some v):p.block<w.heap.size:=by
 simp only [World.cell?] at hp
 apply Nat.lt_of_not_le;intro hge
 rw [Array.getElem?_eq_none hge] at hp;simp at hp
theorem Ext.cell {w w':World} (h:Ext w w') {p:Addr} {v:Value} (hp:w.cell? p=some v):w'.cell? p=some v:=by
 rw [Below.cell h (cell_lt hp)];exact hp
theorem Ext.frozen {w w':World} (h:Ext w w') {p:Addr} (hp:p.block<w.heap.size):w'.frozen? p=w.frozen? p:=Below.frozen h hp
structure Box (w:World) (b:Nat) (c:Array Value):Prop where
 lt:∀ w',Ext w w'→b<w'.heap.size
 cell:∀ w',Ext w w'→∀ i,w'.cell? ⟨b,i,none⟩=c[i]?
 frozen:∀ w',Ext w w'→∀ i,w'.frozen? ⟨b,i,none⟩=false
 hold:∃ t,w.heap[b]?=some (.cells c t (0,0))
theorem Box.of {w:World} {b:Nat} {c:Array Value} {t:TypeId} (h:w.heap[b]?=some (.cells c t (0,0))):Box w b c:=by
 have hlt:b<w.heap.size:=by
  apply Nat.lt_of_not_le;intro hge
  rw [Array.getElem?_eq_none hge] at h;simp at h
 refine ⟨fun w' hx=>Nat.lt_of_lt_of_le hlt hx.le,fun w' hx i=>?_,fun w' hx i=>?_,t,h⟩
 ·have:=hx.block b hlt
  simp [World.cell?,this,h]
 ·have:=hx.block b hlt
  simp [World.frozen?,this,h]
theorem Box.ext {w w':World} {b:Nat} {c:Array Value} (h:Box w b c) (hx:Ext w w'):Box w' b c:=
 ⟨fun _ hy=>h.lt _ (hx.trans hy),fun _ hy=>h.cell _ (hx.trans hy),fun _ hy=>h.frozen _ (hx.trans hy),by
  obtain ⟨t,ht⟩:=h.hold
  exact ⟨t,by rw [hx.block b (h.lt w (Ext.refl _))];exact ht⟩⟩
theorem boxed1 {w : World} {c : Array Value} {t : TypeId} {G : World → Prop}
    (h:∀ w2,Ext w w2→w2.heap.size=w.heap.size+1→Box w2 w.heap.size c→G w2):G (w.alloc (.cells c t)):=
 h _ (Ext.alloc _ _) (by simp) (Box.of (t:=t) (by show (w.heap.push _)[w.heap.size]?=_;simp))
theorem boxed2 {w : World} {c d : Array Value} {tc td : TypeId} {G : World → Prop}
    (h:∀ w2,Ext w w2→w2.heap.size=w.heap.size+1+1→Box w2 w.heap.size c→Box w2 (w.heap.size+1) d→G w2):G ((w.alloc (.cells c tc)).alloc (.cells d td)):=
 boxed1 (G:=fun x=>G (x.alloc (.cells d td))) fun w1 hx hs bc=>by
  refine boxed1 fun w2 hx2 hs2 hb2=>?_
  rw [hs] at hb2 hs2
  exact h w2 (hx.trans hx2) hs2 (bc.ext hx2) hb2
theorem boxed3 {w : World} {c d e : Array Value} {tc td te : TypeId} {G : World → Prop}
    (h:∀ w2,Ext w w2→w2.heap.size=w.heap.size+1+1+1→Box w2 w.heap.size c→Box w2 (w.heap.size+1) d→Box w2 (w.heap.size+1+1) e→G w2):G (((w.alloc (.cells c tc)).alloc (.cells d td)).alloc (.cells e te)):=
 boxed2 (G:=fun x=>G (x.alloc (.cells e te))) fun w1 hx hs bc bd=>by
  refine boxed1 fun w2 hx2 hs2 hb2=>?_
  rw [hs] at hb2 hs2
  exact h w2 (hx.trans hx2) hs2 (bc.ext hx2) (bd.ext hx2) hb2
theorem boxed4 {w : World} {c d e f : Array Value} {tc td te tf : TypeId} {G : World → Prop}
    (h:∀ w2,Ext w w2→w2.heap.size=w.heap.size+1+1+1+1→Box w2 w.heap.size c→Box w2 (w.heap.size+1) d→Box w2 (w.heap.size+1+1) e→Box w2 (w.heap.size+1+1+1) f→G w2):G ((((w.alloc (.cells c tc)).alloc (.cells d td)).alloc (.cells e te)).alloc (.cells f tf)):=
 boxed3 (G:=fun x=>G (x.alloc (.cells f tf))) fun w1 hx hs bc bd be=>by
  refine boxed1 fun w2 hx2 hs2 hb2=>?_
  rw [hs] at hb2 hs2
  exact h w2 (hx.trans hx2) hs2 (bc.ext hx2) (bd.ext hx2) (be.ext hx2) hb2
theorem boxed5 {w : World} {c d e f g : Array Value} {tc td te tf tg : TypeId} {G : World → Prop}
    (h:∀ w2,Ext w w2→w2.heap.size=w.heap.size+1+1+1+1+1→Box w2 w.heap.size c→Box w2 (w.heap.size+1) d→Box w2 (w.heap.size+1+1) e→Box w2 (w.heap.size+1+1+1) f→Box w2 (w.heap.size+1+1+1+1) g→G w2):G (((((w.alloc (.cells c tc)).alloc (.cells d td)).alloc (.cells e te)).alloc (.cells f tf)).alloc (.cells g tg)):=
 boxed4 (G:=fun x=>G (x.alloc (.cells g tg))) fun w1 hx hs bc bd be bf=>by
  refine boxed1 fun w2 hx2 hs2 hb2=>?_
  rw [hs] at hb2 hs2
  exact h w2 (hx.trans hx2) hs2 (bc.ext hx2) (bd.ext hx2) (be.ext hx2) (bf.ext hx2) hb2
theorem boxed6 {w : World} {c d e f g u : Array Value} {tc td te tf tg tu : TypeId} {G : World → Prop}
    (h:∀ w2,Ext w w2→w2.heap.size=w.heap.size+1+1+1+1+1+1→Box w2 w.heap.size c→Box w2 (w.heap.size+1) d→Box w2 (w.heap.size+1+1) e→Box w2 (w.heap.size+1+1+1) f→Box w2 (w.heap.size+1+1+1+1) g→Box w2 (w.heap.size+1+1+1+1+1) u→G w2):G ((((((w.alloc (.cells c tc)).alloc (.cells d td)).alloc (.cells e te)).alloc (.cells f tf)).alloc (.cells g tg)).alloc (.cells u tu)):=
 boxed5 (G:=fun x=>G (x.alloc (.cells u tu))) fun w1 hx hs bc bd be bf bg=>by
  refine boxed1 fun w2 hx2 hs2 hb2=>?_
  rw [hs] at hb2 hs2
  exact h w2 (hx.trans hx2) hs2 (bc.ext hx2) (bd.ext hx2) (be.ext hx2) (bf.ext hx2) (bg.ext hx2) hb2
theorem boxed7 {w : World} {c d e f g u v : Array Value} {tc td te tf tg tu tv : TypeId} {G : World → Prop}
    (h:∀ w2,Ext w w2→w2.heap.size=w.heap.size+1+1+1+1+1+1+1→Box w2 w.heap.size c→Box w2 (w.heap.size+1) d→Box w2 (w.heap.size+1+1) e→Box w2 (w.heap.size+1+1+1) f→Box w2 (w.heap.size+1+1+1+1) g→Box w2 (w.heap.size+1+1+1+1+1) u→Box w2 (w.heap.size+1+1+1+1+1+1) v→G w2):G (((((((w.alloc (.cells c tc)).alloc (.cells d td)).alloc (.cells e te)).alloc (.cells f tf)).alloc (.cells g tg)).alloc (.cells u tu)).alloc (.cells v tv)):=
 boxed6 (G:=fun x=>G (x.alloc (.cells v tv))) fun w1 hx hs bc bd be bf bg bu=>by
  refine boxed1 fun w2 hx2 hs2 hb2=>?_
  rw [hs] at hb2 hs2
  exact h w2 (hx.trans hx2) hs2 (bc.ext hx2) (bd.ext hx2) (be.ext hx2) (bf.ext hx2) (bg.ext hx2) (bu.ext hx2) hb2
theorem boxed8 {w : World} {c d e f g u v y : Array Value} {tc td te tf tg tu tv ty : TypeId} {G : World → Prop}
    (h:∀ w2,Ext w w2→w2.heap.size=w.heap.size+1+1+1+1+1+1+1+1→Box w2 w.heap.size c→Box w2 (w.heap.size+1) d→Box w2 (w.heap.size+1+1) e→Box w2 (w.heap.size+1+1+1) f→Box w2 (w.heap.size+1+1+1+1) g→Box w2 (w.heap.size+1+1+1+1+1) u→Box w2 (w.heap.size+1+1+1+1+1+1) v→Box w2 (w.heap.size+1+1+1+1+1+1+1) y→G w2):G ((((((((w.alloc (.cells c tc)).alloc (.cells d td)).alloc (.cells e te)).alloc (.cells f tf)).alloc (.cells g tg)).alloc (.cells u tu)).alloc (.cells v tv)).alloc (.cells y ty)):=
 boxed7 (G:=fun x=>G (x.alloc (.cells y ty))) fun w1 hx hs bc bd be bf bg bu bv=>by
  refine boxed1 fun w2 hx2 hs2 hb2=>?_
  rw [hs] at hb2 hs2
  exact h w2 (hx.trans hx2) hs2 (bc.ext hx2) (bd.ext hx2) (be.ext hx2) (bf.ext hx2) (bg.ext hx2) (bu.ext hx2) (bv.ext hx2) hb2
theorem ret_eq {a b:Value} (h:a=b):Ending.returned a=.returned b:=by rw [h]
theorem ret_bool {a b:Bool} (h:a=b):Ending.returned (.bool a)=.returned (.bool b):=by rw [h]
theorem ret_int {k:IntKind} {a b:Int} (h:a=b):Ending.returned (.int k a)=.returned (.int k b):=by rw [h]
end Go.Proofs.YtlfdfkbmollaaaaGreatDoor

namespace Go.Proofs.YtlfdfkbmollaaaaGreatDoor
open Go.RowKit
def okI (n:Int):Prop:=-9223372036854775808≤n∧n≤9223372036854775807
structure Tr where
 n:Nat
 name:Nat→ByteArray
 vn:Nat→Nat
 vname:Nat→Nat→ByteArray
 vinit:Nat→Nat→Int
 en:Nat→Nat
 kind:Nat→Nat→Int
 peer:Nat→Nat→Int
 msg:Nat→Nat→Int
 time:Nat→Nat→Int
 an:Nat→Nat→Nat
 avar:Nat→Nat→Nat→Int
 aval:Nat→Nat→Nat→Int
structure TM extends Tr where
 a:Option Addr
 b:Nat
 off:Nat
 cap:Nat
 va:Nat→Option Addr
 vb:Nat→Nat
 vo:Nat→Nat
 vc:Nat→Nat
 ea:Nat→Option Addr
 eb:Nat→Nat
 eo:Nat→Nat
 ec:Nat→Nat
 aa:Nat→Nat→Option Addr
 ab:Nat→Nat→Nat
 ao:Nat→Nat→Nat
 ac:Nat→Nat→Nat
abbrev TM.sl (T:TM):Value:=.slice T.a T.n T.cap
abbrev TM.val (T:TM):Value:=.agg #[.slice T.a T.n T.cap]
abbrev TM.ev (T:TM) (k i:Nat):Value:=.agg #[.int .i64 (T.kind k i),.int .i64 (T.peer k i),.int .i64 (T.msg k i),.int .i64 (T.time k i),.slice (T.aa k i) (T.an k i) (T.ac k i)]
abbrev TM.pr (T:TM) (k:Nat):Value:=.agg #[.string (T.name k),.slice (T.va k) (T.vn k) (T.vc k),.slice (T.ea k) (T.en k) (T.ec k)]
structure TM.AtP (T:TM) (w:World):Prop where
 hn:T.n≤140737488355328
 pc:T.n≤T.cap
 pa:0<T.n→T.a=some ⟨T.b,T.off,none⟩
 pb:0<T.n→∀ w',Ext w w'→T.b<w'.heap.size
 p0:∀ w',Ext w w'→∀ k,k<T.n→w'.cell? ⟨T.b,T.off+k*3,none⟩=some (.string (T.name k))
 p1:∀ w',Ext w w'→∀ k,k<T.n→w'.cell? ⟨T.b,T.off+k*3+1,none⟩=some (.slice (T.va k) (T.vn k) (T.vc k))
 p2:∀ w',Ext w w'→∀ k,k<T.n→w'.cell? ⟨T.b,T.off+k*3+2,none⟩=some (.slice (T.ea k) (T.en k) (T.ec k))
structure TM.AtV (T:TM) (w:World):Prop where
 hv:∀ k,k<T.n→T.vn k≤140737488355328
 vc:∀ k,k<T.n→T.vn k≤T.vc k
 va:∀ k,k<T.n→0<T.vn k→T.va k=some ⟨T.vb k,T.vo k,none⟩
 vb:∀ k,k<T.n→0<T.vn k→∀ w',Ext w w'→T.vb k<w'.heap.size
 v0:∀ w',Ext w w'→∀ k i,k<T.n→i<T.vn k→w'.cell? ⟨T.vb k,T.vo k+i*2,none⟩=some (.string (T.vname k i))
 v1:∀ w',Ext w w'→∀ k i,k<T.n→i<T.vn k→w'.cell? ⟨T.vb k,T.vo k+i*2+1,none⟩=some (.int .i64 (T.vinit k i))
structure TM.AtE (T:TM) (w:World):Prop where
 he:∀ k,k<T.n→T.en k≤140737488355328
 ec:∀ k,k<T.n→T.en k≤T.ec k
 ea:∀ k,k<T.n→0<T.en k→T.ea k=some ⟨T.eb k,T.eo k,none⟩
 eb:∀ k,k<T.n→0<T.en k→∀ w',Ext w w'→T.eb k<w'.heap.size
 e0:∀ w',Ext w w'→∀ k i,k<T.n→i<T.en k→w'.cell? ⟨T.eb k,T.eo k+i*5,none⟩=some (.int .i64 (T.kind k i))
 e1:∀ w',Ext w w'→∀ k i,k<T.n→i<T.en k→w'.cell? ⟨T.eb k,T.eo k+i*5+1,none⟩=some (.int .i64 (T.peer k i))
 e2:∀ w',Ext w w'→∀ k i,k<T.n→i<T.en k→w'.cell? ⟨T.eb k,T.eo k+i*5+2,none⟩=some (.int .i64 (T.msg k i))
 e3:∀ w',Ext w w'→∀ k i,k<T.n→i<T.en k→w'.cell? ⟨T.eb k,T.eo k+i*5+3,none⟩=some (.int .i64 (T.time k i))
 e4:∀ w',Ext w w'→∀ k i,k<T.n→i<T.en k→w'.cell? ⟨T.eb k,T.eo k+i*5+4,none⟩=some (.slice (T.aa k i) (T.an k i) (T.ac k i))
structure TM.AtA (T:TM) (w:World):Prop where
 ha:∀ k i,k<T.n→i<T.en k→T.an k i≤140737488355328
 ac:∀ k i,k<T.n→i<T.en k→T.an k i≤T.ac k i
 aa:∀ k i,k<T.n→i<T.en k→0<T.an k i→T.aa k i=some ⟨T.ab k i,T.ao k i,none⟩
 ab:∀ k i,k<T.n→i<T.en k→0<T.an k i→∀ w',Ext w w'→T.ab k i<w'.heap.size
 a0:∀ w',Ext w w'→∀ k i j,k<T.n→i<T.en k→j<T.an k i→w'.cell? ⟨T.ab k i,T.ao k i+j*2,none⟩=some (.int .i64 (T.avar k i j))
 a1:∀ w',Ext w w'→∀ k i j,k<T.n→i<T.en k→j<T.an k i→w'.cell? ⟨T.ab k i,T.ao k i+j*2+1,none⟩=some (.int .i64 (T.aval k i j))
structure Tr.Ok (T:Tr):Prop where
 name:∀ k,k<T.n→(T.name k).size≤9223372036854775807
 vname:∀ k i,k<T.n→i<T.vn k→(T.vname k i).size≤9223372036854775807
 vinit:∀ k i,k<T.n→i<T.vn k→okI (T.vinit k i)
 kind:∀ k i,k<T.n→i<T.en k→okI (T.kind k i)
 peer:∀ k i,k<T.n→i<T.en k→okI (T.peer k i)
 msg:∀ k i,k<T.n→i<T.en k→okI (T.msg k i)
 time:∀ k i,k<T.n→i<T.en k→okI (T.time k i)
 avar:∀ k i j,k<T.n→i<T.en k→j<T.an k i→okI (T.avar k i j)
 aval:∀ k i j,k<T.n→i<T.en k→j<T.an k i→okI (T.aval k i j)
structure TM.At (T:TM) (w:World):Prop where
 P:T.AtP w
 V:T.AtV w
 E:T.AtE w
 A:T.AtA w
 ok:T.toTr.Ok
theorem TM.At.ext {T:TM} {w w':World} (h:T.At w) (x:Ext w w'):T.At w':=by
 obtain ⟨⟨p1,p2,p3,p4,p5,p6,p7⟩,⟨v1,v2,v3,v4,v5,v6⟩,⟨e1,e2,e3,e4,e5,e6,e7,e8,e9⟩,⟨a1,a2,a3,a4,a5,a6⟩,ok⟩:=h
 exact ⟨⟨p1,p2,p3,fun h w' y=>p4 h w' (x.trans y),fun w' y=>p5 w' (x.trans y),fun w' y=>p6 w' (x.trans y),fun w' y=>p7 w' (x.trans y)⟩,
  ⟨v1,v2,v3,fun k h h' w' y=>v4 k h h' w' (x.trans y),fun w' y=>v5 w' (x.trans y),fun w' y=>v6 w' (x.trans y)⟩,
  ⟨e1,e2,e3,fun k h h' w' y=>e4 k h h' w' (x.trans y),fun w' y=>e5 w' (x.trans y),fun w' y=>e6 w' (x.trans y),fun w' y=>e7 w' (x.trans y),fun w' y=>e8 w' (x.trans y),fun w' y=>e9 w' (x.trans y)⟩,
  ⟨a1,a2,a3,fun k i h h' h'' w' y=>a4 k i h h' h'' w' (x.trans y),fun w' y=>a5 w' (x.trans y),fun w' y=>a6 w' (x.trans y)⟩,ok⟩
end Go.Proofs.YtlfdfkbmollaaaaGreatDoor

namespace Go.Proofs.YtlfdfkbmollaaaaGreatDoor
open Go.RowKit
theorem cell_set (w : World) (b o o' : Nat) (v : Value) {u : Value} (h : w.cell? ⟨b, o, none⟩ = some u) :
    (w.setCell ⟨b,o,none⟩ v).cell? ⟨b,o',none⟩=if o'=o then some v else w.cell? ⟨b,o',none⟩:=by
 simp only [World.cell?] at h
 cases hb:w.heap[b]? with
 | none => simp [hb] at h
 | some ob =>
  cases ob with
  | cells c t fr =>
   simp [hb] at h
   have hlt:o<c.size:=by
    apply Nat.lt_of_not_le;intro hge;rw [Array.getElem?_eq_none hge] at h;cases h
   simp only [World.cell?,World.setCell,Array.getElem?_modify,hb]
   simp only [Option.isSome_none,Bool.false_eq_true,if_false,if_true,Option.map_some]
   rw [Array.getElem?_setIfInBounds]
   by_cases e:o=o'
   ·subst e;simp [hlt]
   ·rw [if_neg e,if_neg (fun h=>e h.symm)]
  | _ => simp [hb] at h
theorem cell_set_other (w:World) (p:Addr) (b o:Nat) (v:Value) (h:b≠p.block):(w.setCell p v).cell? ⟨b,o,none⟩=w.cell? ⟨b,o,none⟩:=
 World.cell?_of_block (w:=w) (Below.heap_setCell _ _ _ _ h)
theorem frozen_set (w:World) (p q:Addr) (v:Value):(w.setCell p v).frozen? q=w.frozen? q:=World.frozen?_setCell _ _ _ _
def Hold (W:World) (b:Nat) (c:Array Value):Prop:=∃ t,W.heap[b]?=some (.cells c t (0,0))
theorem Hold.box {W:World} {b:Nat} {c:Array Value} (h:Hold W b c):Box W b c:=by obtain ⟨t,h⟩:=h;exact Box.of h
theorem Hold.ext {W W':World} {b:Nat} {c:Array Value} (h:Hold W b c) (x:Ext W W'):Hold W' b c:=(h.box.ext x).hold
theorem Hold.lt {W:World} {b:Nat} {c:Array Value} (h:Hold W b c):b<W.heap.size:=h.box.lt W (Ext.refl _)
theorem Hold.other {W:World} {b:Nat} {c:Array Value} (h:Hold W b c) (p:Addr) (v:Value) (hp:b≠p.block):Hold (W.setCell p v) b c:=by
 obtain ⟨t,h⟩:=h;exact ⟨t,by rw [Below.heap_setCell _ _ _ _ hp];exact h⟩
theorem Hold.set {W:World} {b:Nat} {c:Array Value} (h:Hold W b c) (i:Nat) (v:Value):Hold (W.setCell ⟨b,i,none⟩ v) b (c.setIfInBounds i v):=by
 obtain ⟨t,h⟩:=h
 refine ⟨t,?_⟩
 simp only [World.setCell,Array.getElem?_modify,h]
 simp
theorem Hold.drew {W:World} {b:Nat} {c:Array Value} (h:Hold W b c):Hold W.drew b c:=h
theorem Hold.own {β:Type} (B b:Nat) (c:β→Array Value):OwnFrom B (fun (s:β) W=>Hold W b (c s)):=by
 intro s W W' row ⟨t,h⟩ hg hr
 refine ⟨t,?_⟩
 rw [hg.block b (Array.getElem?_eq_some_iff.1 h).1 (fun e=>?_)]
 ·exact h
 ·obtain ⟨_,o,ho,hc⟩:=hr b e.symm
  rw [h] at ho;cases ho;cases hc
theorem Hold.new (W:World) (c:Array Value) (t:TypeId):Hold (W.alloc (.cells c t)) W.heap.size c:=⟨t,by show (W.heap.push _)[W.heap.size]?=_;simp⟩
theorem Ext.keepsFrom {W W':World} (h:Ext W W') (B:Nat):KeepsFrom B W W':=
 ⟨h.size,fun k o _ hk _=>by rw [←hk];exact h.block k (Array.getElem?_eq_some_iff.1 hk).1⟩
theorem keeps_set (B:Nat) (W:World) (p:Addr) (v:Value):KeepsFrom B W (W.setCell p v):=(KeepsOthers.setCell _ _ _).from _
theorem Hold.putObj {W:World} {b:Nat} {c:Array Value} (h:Hold W b c) (D:Nat) (o:Obj) (hD:b≠D):Hold (W.putObj D o) b c:=by
 obtain ⟨t,h⟩:=h;exact ⟨t,(World.putObj_heap_other hD).trans h⟩
theorem Hold.cell0 {W:World} {b:Nat} {c:Array Value} (h:Hold W b c) (i:Nat):W.cell? ⟨b,i,none⟩=c[i]?:=h.box.cell W (Ext.refl _) i
theorem news_ok (w:World) (l:List Value) (t:TypeId):∀ (j:Nat) (u:Value),l[j]?=some u→(w.alloc (.cells l.toArray t)).cell? ((⟨w.heap.size,0,none⟩:Addr).add j)=some u:=by
 intro j u h
 have e:(⟨w.heap.size,0,none⟩:Addr).add j=⟨w.heap.size,j,none⟩:=by
  unfold Addr.add
  by_cases hj:j=0
  ·subst hj;rfl
  ·rw [if_neg hj];simp
 rw [e,World.cell?_alloc_new]
 simpa using h
theorem Ext.grown {w w':World} (h:w.grownBy w' none):Ext w w':=(Below.refl _ _).grown h (Nat.le_refl _) (fun k e=>by cases e)
end Go.Proofs.YtlfdfkbmollaaaaGreatDoor

namespace Go.Proofs.YtlfdfkbmollaaaaGreatDoor
open Go.RowKit
theorem heldTake {P : Program} {Q : Exit → Act → World → Prop} {md : Region.Mode} {S : World → Prop} {l : List Oper} (i : Nat) {oi : Oper} {v : Value} {fuel : Nat} {listed : Array Bool} {a : Act} {w : World} (hi : l[i]? = some oi)
    (hs:Region.noSelect l.toArray=true) (hf:Region.free md l.toArray listed i=true) (hr:(Region.ready md l.toArray listed).contains i=true)
    (hQ:∀ c a w,Q (.panic c) (a.put oi.dst v) w→Q (.panic c) a w) (hy:YieldsIf P l.toArray S oi v a) (hS:S w)
    (h:wpAnyH P md l.toArray Q S fuel (listed.setIfInBounds i true) (a.put oi.dst v) w):wpAnyH P md l.toArray Q S (fuel+1) listed a w:=
 wpAnyH_take (by simpa using hi) hs hf hr hQ hy hS h
end Go.Proofs.YtlfdfkbmollaaaaGreatDoor

namespace Go.Proofs.YtlfdfkbmollaaaaGreatDoor
open Go.RowKit
section
variable {P:Program} {ops:Array Oper} {md:Region.Mode} {w:World}
def behindB (md:Region.Mode) (ops:Array Oper) (n:Nat):Bool:=
 (List.range ops.size).all fun t=>decide (t≤n) || (List.range t).any fun j=>decide (n≤j) && Region.waitsFor md ops t j
def Waits (md:Region.Mode) (ops:Array Oper) (n:Nat):Prop:=
 ∀ listed,HeadInv md ops n listed→∀ d i,n - i=d→i<n→listed.getD i true=false→∀ t,n≤t→t∉Region.ready md ops listed
theorem waits_of {n:Nat} (hs:Region.sinkB md ops n=true) (hc:behindB md ops n=true):Waits md ops n:=by
 intro listed inv d
 induction d using Nat.strongRecOn with
 | _ d ih =>
  intro i hd hi hun t ht hr
  obtain ⟨_,ot,hot,hall⟩:=mem_ready.1 hr
  have htlt:t<ops.size:=(Array.getElem?_eq_some_iff.1 hot).1
  have key:∀ j,Region.waitsFor md ops t j=true→listed.getD j false=false→False:=fun j hj hf=>by
   obtain ⟨o',ho',e,he,hb,hon⟩:=Region.waitsFor_spec hj
   cases Option.some.inj (ho'.symm.trans hot)
   have h2:=hall e he hb
   rw [hon,hf] at h2;cases h2
  by_cases htn:t=n
  ·obtain ⟨j,hj,hj2⟩:=List.any_eq_true.1 (List.all_eq_true.1 hs i (List.mem_range.2 hi))
   simp only [Bool.and_eq_true,decide_eq_true_eq] at hj2
   have hjn:=List.mem_range.1 hj
   by_cases hjt:j=t
   ·exact key i (hjt▸hj2.2) (getD_both hun)
   ·cases hl:listed.getD j false with
    | true =>
     obtain ⟨oj,hoj,e,he,hb,hon⟩:=Region.waitsFor_spec hj2.2
     have h2:=inv.closed j oj hoj hl e he hb
     rw [hon,getD_both hun] at h2;cases h2
    | false => exact ih (n - j) (by omega) j rfl (by omega) (getD_in (by rw [inv.size];omega) hl) t ht hr
  ·rcases Bool.or_eq_true_iff.1 (List.all_eq_true.1 hc t (List.mem_range.2 htlt)) with h1 | h1
   ·have:=of_decide_eq_true h1;omega
   ·obtain ⟨j,hj,hj2⟩:=List.any_eq_true.1 h1
    simp only [Bool.and_eq_true,decide_eq_true_eq] at hj2
    have:=List.mem_range.1 hj
    exact key j hj2.2 (getD_both (inv.tail j hj2.1 (by omega)))
theorem head_first {n i : Nat} {oi : Oper} {v : Value} {L : Array Bool → Act → Prop} (hi : ops[i]? = some oi) (hsel : ∀ (j : Nat) (o : Oper) cs b, ops[j]? = some o → o.op ≠ .select cs b)
    (hw:Waits md ops n) (hin:i<n) (hdone:∀ listed a,L listed a→∀ j∈Region.ready md ops listed,n≤j) (f:Nat) :
    ∀ (listed:Array Bool) (a:Act),HeadInv md ops n listed→
     (∀ j oj,ops[j]?=some oj→j≠i→listed.getD j true=false→(∀ e∈oj.after,Region.binds md e=true→e.on≠i)→oi.apart ops oj=true)→
     i∈Region.ready md ops listed→YieldsAt P ops w oi v a→
     wpAnyL P md ops w n L f (listed.setIfInBounds i true) (a.put oi.dst v)→wpAnyL P md ops w n L (f+1) listed a:=by
 induction f with
 | zero =>
  intro listed a inv _ hr hy H
  refine ⟨fun h=>(by rw [h] at hr;cases hr),fun j hj=>?_⟩
  have hjn:j<n:=Nat.lt_of_not_le fun h=>hw listed inv _ i rfl hin (mem_ready.1 hr).1 j h hj
  refine ⟨hjn,?_⟩
  by_cases hji:j=i
  ·subst hji;exact hy.stOp hi H
  ·have:=hdone _ _ H j (ready_mono hj hji);omega
 | succ f ih =>
  intro listed a inv hfree hr hy H
  have hun:=(mem_ready.1 hr).1
  refine ⟨fun h=>(by rw [h] at hr;cases hr),fun j hj=>?_⟩
  have hjn:j<n:=Nat.lt_of_not_le fun h=>hw listed inv _ i rfl hin hun j h hj
  refine ⟨hjn,?_⟩
  by_cases hji:j=i
  ·subst hji;exact hy.stOp hi H
  ·obtain ⟨hjun,oj,hoj,hall⟩:=mem_ready.1 hj
   have hnot:∀ e∈oj.after,Region.binds md e=true→e.on≠i:=fun e he hb heq=>by
    have h1:=hall e he hb
    rw [heq,getD_both hun] at h1;cases h1
   have h2:=stOp_put hoj (hfree j oj hoj hji hjun hnot) (fun cs b=>hsel i oi cs b hi) (fun cs b=>hsel j oj cs b hoj) hy (H.2 j (ready_mono hj hji)).2
   refine stOp_mono (fun a' h3=>ih (listed.setIfInBounds j true) a' (inv.set hj hjn) (fun k ok hk hki hu hno=>hfree k ok hk hki ?_ hno) (ready_mono hr (Ne.symm hji)) h3.1 ?_) h2
   ·by_cases hjk:j=k
    ·subst hjk;exact hjun
    ·rw [getD_set_ne true hjk] at hu;exact hu
   ·rw [Array.setIfInBounds_comm _ _ hji];exact h3.2
def doneTo (n m:Nat):Array Bool:=Array.replicate n true++Array.replicate (m - n) false
def headB (md:Region.Mode) (ops:Array Oper) (n:Nat):Nat→Nat→Array Bool→Bool
 | 0,_,listed => decide (listed=doneTo n ops.size) && (Region.ready md ops listed).all fun j => decide (n≤j)
 | f+1,k,listed => (Region.ready md ops listed).contains k && Region.free md ops listed k && headB md ops n f (k+1) (listed.setIfInBounds k true)
def readsB (md:Region.Mode) (ops:Array Oper) (n:Nat):Bool:=
 Region.noSelect ops && decide (n<ops.size) && Region.sinkB md ops n && behindB md ops n && headB md ops n n 0 (Array.replicate ops.size false)
theorem head_lex {n : Nat} {Lq : Act → Prop} (hsel : Region.noSelect ops = true) (hw : Waits md ops n) :
    ∀ (l:List Oper) (k:Nat) (listed:Array Bool) (a:Act),(∀ j,j<l.length→l[j]?=ops[k+j]?)→k+l.length=n→HeadInv md ops n listed→
    headB md ops n l.length k listed=true→wpStill P ops w Lq l a→
    wpAnyL P md ops w n (fun listed' a'=>(listed'=doneTo n ops.size∧∀ j∈Region.ready md ops listed',n≤j)∧Lq a') l.length listed a
 | [],k,listed,a,_,_,_,hB,h => by
  simp only [List.length_nil,headB,Bool.and_eq_true,decide_eq_true_eq,List.all_eq_true] at hB
  exact ⟨hB,h⟩
 | o :: l,k,listed,a,hl,hk,inv,hB,h => by
  have h0:ops[k]?=some o:=by simpa using (hl 0 (by simp)).symm
  simp only [List.length_cons,headB,Bool.and_eq_true] at hB
  have hkn:k<n:=by simp only [List.length_cons] at hk;omega
  have hr:k∈Region.ready md ops listed:=by simpa using hB.1.1
  have hst:stOp P ops w k (wpStill P ops w Lq l) a:=by unfold stOp;simp only [h0];exact h
  obtain ⟨v,hy,hK⟩:=yieldsAt_of_stOp h0 hst
  exact head_first h0 (Region.noSelect_spec hsel) hw hkn (fun _ _ hL=>hL.1.2) l.length listed a inv (Region.free_spec h0 hB.1.2) hr hy
   (head_lex hsel hw l (k+1) _ _ (fun j hj=>by have:=hl (j+1) (by simp;omega);simpa [Nat.add_assoc,Nat.add_comm 1 j] using this) (by simp only [List.length_cons] at hk;omega) (inv.set hr hkn) hB.2 hK)
theorem wp_region_reads {id : Nat} {Q : Exit → Act → World → Prop} {a : Act} {w : World} {l : List Oper} (n : Nat) (hm : P.follows .mixedOrders = true) (hB : readsB .any l.toArray n = true)
    (h:wpStill P l.toArray w.drew (fun a'=>wpAny P .any l.toArray Q (l.length - n) (doneTo n l.length) a' w.drew) (l.take n) a):(Code.region id l.toArray true).wp P Q a w:=by
 simp only [readsB,Bool.and_eq_true,decide_eq_true_eq] at hB
 obtain ⟨⟨⟨⟨hsel,hn⟩,hs⟩,hc⟩,hlex⟩:=hB
 have hn':n<l.length:=by simpa using hn
 have htl:(l.take n).length=n:=by simp;omega
 have inv0:HeadInv .any l.toArray n (Array.replicate l.toArray.size false):=
  ⟨by simp,fun j oj _ hl=>(by rw [getD_replicate_false] at hl;cases hl),fun t _ ht=>getD_in (by simpa using ht) (getD_replicate_false _ _)⟩
 have H:=head_lex (md:=.any) hsel (waits_of hs hc) (l.take n) 0 _ a (fun j hj=>by rw [htl] at hj;simp [hj]) (by simpa using htl) inv0 (by rw [htl];exact hlex) h
 refine wp_region_any hm ?_
 have:=wpAny_of_head (Q':=Q) (g:=l.length - n) (fun listed a' hL=>by
  rw [hL.1.1];exact hL.2) _ _ _ H
 rw [htl,show n+(l.length - n)=l.toArray.size by simp;omega] at this
 exact this
end
end Go.Proofs.YtlfdfkbmollaaaaGreatDoor

namespace Go.Proofs.YtlfdfkbmollaaaaGreatDoor
open Go.RowKit
structure Que (w:World) (base size:Nat) (v:Value) (n:Nat) (xs:List Value):Prop where
 len:xs.length=n*size
 val:(∃ ao,v=.slice ao 0 0∧n=0∧∀ a,ao=some a→base≤a.block)∨∃ g off cap,v=.slice (some ⟨g,off,none⟩) n cap∧base≤g∧g<w.heap.size∧n≤cap∧cap≤maxLen∧
  (∀ j,j<n*size→w.cell? ⟨g,off+j,none⟩=xs[j]?)∧∀ j,j<cap*size→(w.cell? ⟨g,off+j,none⟩).isSome=true∧w.frozen? ⟨g,off+j,none⟩=false
theorem Que.same {w w':World} {base size:Nat} {v:Value} {n:Nat} {xs:List Value} (h:Que w base size v n xs) (hs:w.heap.size≤w'.heap.size) (hb:∀ g,base≤g→g<w.heap.size→w'.heap[g]?=w.heap[g]?):Que w' base size v n xs:=by
 refine ⟨h.len,?_⟩
 rcases h.val with hv | ⟨g,off,cap,hv,h1,h2,h3,h4,h5,h6⟩
 ·exact .inl hv
 ·have e:=hb g h1 h2
  refine .inr ⟨g,off,cap,hv,h1,by omega,h3,h4,fun j hj=>?_,fun j hj=>?_⟩
  ·exact (World.cell?_of_block (w:=w) (a:=⟨g,off+j,none⟩) e).trans (h5 j hj)
  ·rw [World.cell?_of_block (w:=w) (a:=⟨g,off+j,none⟩) e,World.frozen?_of_block (w:=w) (a:=⟨g,off+j,none⟩) e]
   exact h6 j hj
theorem Que.ext {w w':World} {base size:Nat} {v:Value} {n:Nat} {xs:List Value} (h:Que w base size v n xs) (x:Ext w w'):Que w' base size v n xs:=
 h.same x.le fun g _ hg=>x.block g hg
theorem Que.mono {w:World} {base base' size:Nat} {v:Value} {n:Nat} {xs:List Value} (h:Que w base size v n xs) (hb:base'≤base):Que w base' size v n xs:=by
 refine ⟨h.len,?_⟩
 rcases h.val with ⟨ao,hv,hn,ha⟩ | ⟨g,off,cap,hv,h1,h2⟩
 ·exact .inl ⟨ao,hv,hn,fun a e=>Nat.le_trans hb (ha a e)⟩
 ·exact .inr ⟨g,off,cap,hv,by omega,h2⟩
theorem Que.block {w:World} {base size:Nat} {v:Value} {n:Nat} {xs:List Value} (h:Que w base size v n xs):∀ k,v.ownBlock=some k→base≤k:=by
 intro k hk
 rcases h.val with ⟨ao,rfl,hn,ha⟩ | ⟨g,off,cap,rfl,h1,h2⟩
 ·cases ao with
  | none => cases hk
  | some a => cases hk;exact ha a rfl
 ·cases hk;exact h1
theorem Que.same' {w w':World} {base size:Nat} {v:Value} {n:Nat} {xs:List Value} (h:Que w base size v n xs) (hs:w.heap.size≤w'.heap.size) (hb:∀ g,v.ownBlock=some g→w'.heap[g]?=w.heap[g]?):Que w' base size v n xs:=by
 refine ⟨h.len,?_⟩
 rcases h.val with hv | ⟨g,off,cap,hv,h1,h2,h3,h4,h5,h6⟩
 ·exact .inl hv
 ·have e:=hb g (by rw [hv];rfl)
  refine .inr ⟨g,off,cap,hv,h1,by omega,h3,h4,fun j hj=>?_,fun j hj=>?_⟩
  ·exact (World.cell?_of_block (w:=w) (a:=⟨g,off+j,none⟩) e).trans (h5 j hj)
  ·rw [World.cell?_of_block (w:=w) (a:=⟨g,off+j,none⟩) e,World.frozen?_of_block (w:=w) (a:=⟨g,off+j,none⟩) e]
   exact h6 j hj
theorem Que.src {P:Program} {w:World} {base size:Nat} {v:Value} {n:Nat} {xs:List Value} (h:Que w base size v n xs) {tx e':TypeId} (hk:P.underlying tx=some (.slice e')) (h1:∀ u∈xs,u.oneCell'=true):Src P size tx v n xs w:=by
 rcases h.val with ⟨ao,rfl,rfl,ha⟩ | ⟨g,off,cap,rfl,_,_,_,_,h5,h6⟩
 ·obtain rfl:xs=[]:=List.eq_nil_of_length_eq_zero (by simpa using h.len)
  cases ao with
  | none => exact Src.ofNil w hk 0
  | some a => exact Src.ofSlice w hk a 0 0 [] (by simp) (by intro _ _ h';simp at h') h1
 ·refine Src.ofSlice w hk ⟨g,off,none⟩ n cap xs h.len (fun j u hu=>?_) h1
  have hj:=(List.getElem?_eq_some_iff.1 hu).1
  rw [h.len] at hj
  rw [Addr.add_lit];exact (h5 j hj).trans hu
theorem Que.nil (w:World) (base size:Nat):Que w base size (.slice none 0 0) 0 []:=⟨by simp,.inl ⟨_,rfl,rfl,fun a e=>by cases e⟩⟩
theorem Que.own {w:World} {base:Nat} {e:TypeId} {size:Nat} {v:Value} {n:Nat} {xs:List Value} (h:w.ownsRow base e size v n xs):Que w base size v n xs:=by
 obtain ⟨h1,⟨hv,hn⟩ | ⟨g,cap,cur,hv,hg,hh,hc,hm,hs,ht⟩⟩:=h
 ·exact ⟨h1,.inl ⟨none,hv,hn,fun a e=>by cases e⟩⟩
 ·have hb:=Box.of hh
  refine ⟨h1,.inr ⟨g,0,cap,hv,hg,(Array.getElem?_eq_some_iff.1 hh).1,hc,hm,fun j hj=>?_,fun j hj=>⟨?_,?_⟩⟩⟩
  ·rw [hb.cell w (Ext.refl _),Nat.zero_add,←ht,List.getElem?_take_of_lt hj];simp
  ·rw [hb.cell w (Ext.refl _),Nat.zero_add,Array.getElem?_eq_getElem (by rw [hs];exact hj)];rfl
  ·exact hb.frozen w (Ext.refl _) _
theorem Que.tail {w : World} {base size : Nat} {v : Value} {n : Nat} {xs : List Value} (h : Que w base size v (n + 1) xs) :
    ∃ g off cap,v=.slice (some ⟨g,off,none⟩) (n+1) cap∧base≤g∧g<w.heap.size∧n+1≤cap∧cap≤maxLen∧(∀ j,j<(n+1)*size→w.cell? ⟨g,off+j,none⟩=xs[j]?)∧
     Que w base size (.slice (if cap=1 then some ⟨g,off,none⟩ else some ⟨g,off+size,none⟩) n (cap - 1)) n (xs.drop size):=by
 rcases h.val with ⟨_,_,hv,_⟩ | ⟨g,off,cap,hv,h1,h2,h3,h4,h5,h6⟩
 ·cases hv
 ·refine ⟨g,off,cap,hv,h1,h2,h3,h4,h5,?_,?_⟩
  ·rw [List.length_drop,h.len,Nat.add_mul];omega
  ·by_cases hc:cap=1
   ·subst hc
    obtain rfl:n=0:=by omega
    exact .inl ⟨_,rfl,rfl,fun a e=>by rw [if_pos rfl] at e;cases e;exact h1⟩
   ·rw [if_neg hc]
    refine .inr ⟨g,off+size,cap - 1,rfl,h1,h2,by omega,by omega,fun j hj=>?_,fun j hj=>?_⟩
    ·rw [Nat.add_assoc,h5 (size+j) (by rw [Nat.add_mul];omega),List.getElem?_drop]
    ·rw [Nat.add_assoc]
     have:size+j<cap*size:=by
      obtain ⟨c,rfl⟩:∃ c,cap=c+1:=⟨cap - 1,by omega⟩
      rw [Nat.add_mul];simp at hj;omega
     exact h6 _ this
theorem tape_setCells (b:Nat):∀ (vs:List Value) (o:Nat) (w:World),(w.setCells b o vs).tape=w.tape∧(w.setCells b o vs).heap.size=w.heap.size
 | [],_,_ => ⟨rfl,rfl⟩
 | v :: vs,o,w => by
  have:=tape_setCells b vs (o+1) (w.setCell ⟨b,o,none⟩ v)
  exact ⟨this.1,this.2.trans (World.size_setCell _ _ _)⟩
section
variable {P:Program}
theorem run_append_que {w : World} {base : Nat} (t tx ty e : TypeId) (i : TypeInfo) (z : Value) (size bytes : Nat) (ht : P.underlying t = some (.slice e)) (hi : P.info? e = some i) (hz : i.zero = some z) (hsize : i.size = size) (hby : i.bytes = bytes) (hzs : z.cells.size = size)
    {v:Value} {n:Nat} {xs:List Value} (h:Que w base size v n xs) (hb:base≤w.heap.size)
    (x:Value) (m:Nat) (news:List Value) (hs:Src P size tx x m news w) (h63:n+m≤maxLen) (hbytes:(n+m)*bytes≤140737488355328) :
    ∃ v' w',(Builtin.append_ #[t,tx] ty #[v,x]).run P w=.ok v' w'∧Que w' base size v' (n+m) (xs++news)∧w.grownBy w' v.ownBlock∧(v'.ownBlock=v.ownBlock∨v'.ownBlock=some w.heap.size):=by
 subst hsize hby
 have hnl:=hs.newsLen
 have hxl:=h.len
 have hL:(xs++news).length=(n+m)*i.size:=by rw [List.length_append,hxl,hnl,Nat.add_mul]
 have hsmall:n+m≤9223372036854775807:=by simp only [maxLen] at h63;omega
 have grow : ∀ (bs : Option Addr) (sc : Nat), v = .slice bs n sc → sc < n + m →
     (Builtin.firstCells i.size n (.slice bs n sc)).run P w.drew=.ok xs.toArray w.drew→
     ∃ v' w',(Builtin.append_ #[t,tx] ty #[v,x]).run P w=.ok v' w'∧Que w' base i.size v' (n+m) (xs++news)∧w.grownBy w' v.ownBlock∧(v'.ownBlock=v.ownBlock∨v'.ownBlock=some w.heap.size):=by
  rintro bs sc rfl hg hold
  have hrun:=run_append_grow_src (P:=P) w t tx ty e i z ht hi hz bs n sc xs hold x m news hs hg (by omega) (growslice_fits hg hbytes)
  have hge:=grownCap_ge w (n+m) sc e
  have hcm:=grownCap_le_maxLen w (n+m) sc e h63
  refine ⟨_,_,hrun,⟨hL,.inr ⟨w.heap.size,0,_,rfl,hb,?_,hge,hcm,fun j hj=>?_,fun j hj=>⟨?_,?_⟩⟩⟩,⟨rfl,rfl,rfl,by rw [World.size_alloc];exact Nat.le_succ _,fun k hk _=>Below.heap_alloc w.drew _ k hk⟩,.inr rfl⟩
  ·rw [World.size_alloc];exact Nat.lt_succ_self _
  ·have e1:(w.drew.alloc (.cells ((xs++news).toArray++Builtin.zeroCells z.cells (grownCap w (n+m) sc e - (n+m))) e)).cell? ⟨w.heap.size,j,none⟩=_:=World.cell?_alloc_new w.drew _ _ j
   rw [Nat.zero_add,e1,Array.getElem?_append_left (by simp only [List.size_toArray];rw [hL];exact hj),List.getElem?_toArray]
  ·have e1:(w.drew.alloc (.cells ((xs++news).toArray++Builtin.zeroCells z.cells (grownCap w (n+m) sc e - (n+m))) e)).cell? ⟨w.heap.size,j,none⟩=_:=World.cell?_alloc_new w.drew _ _ j
   rw [Nat.zero_add,e1]
   have hsz:((xs++news).toArray++Builtin.zeroCells z.cells (grownCap w (n+m) sc e - (n+m))).size=grownCap w (n+m) sc e*i.size:=by
    rw [Array.size_append,List.size_toArray,hL,size_zeroCells,hzs,←Nat.add_mul]
    congr 1
    omega
   rw [Array.getElem?_eq_getElem (by rw [hsz];exact hj)]
   rfl
  ·rw [Nat.zero_add];exact World.frozen?_alloc_new w.drew _ _ j
 rcases h.val with ⟨ao,rfl,rfl,hao⟩ | ⟨g,off,cap,rfl,h1,h2,h3,h4,h5,h6⟩
 ·obtain rfl:xs=[]:=List.eq_nil_of_length_eq_zero (by simpa using hxl)
  by_cases hm:m=0
  ·subst hm
   obtain rfl:news=[]:=List.eq_nil_of_length_eq_zero (by simpa using hnl)
   exact ⟨_,_,run_append_nothing (P:=P) w t tx ty e i ht hi ao 0 0 (Nat.le_refl _) x hs,by simpa using h,World.grownBy.refl _ _,.inl rfl⟩
  ·refine grow ao 0 rfl (by omega) ?_
   cases ao with
   | none => exact run_firstCells_none w.drew i.size 0 0 0
   | some a' => exact run_firstCells_some w.drew i.size 0 a' 0 0 [] (by simp) (by intro _ _ h';simp at h')
 ·by_cases hfit:n+m≤cap
  ·have hrc:(n+m)*i.size≤cap*i.size:=Nat.mul_le_mul_right _ hfit
   rw [Nat.add_mul] at hrc
   have hsome:∀ j,j<news.length→(w.cell? ⟨g,off+n*i.size+j,none⟩).isSome=true:=fun j hj=>by rw [Nat.add_assoc];exact (h6 _ (by omega)).1
   have hrun:=run_append_room_src (P:=P) w t tx ty e i ht hi g off n cap x m news hs hfit hsome (fun j hj=>by rw [Nat.add_assoc];exact (h6 _ (by omega)).2)
   have hts:=tape_setCells g news (off+n*i.size) w
   refine ⟨_,_,hrun,⟨hL,.inr ⟨g,off,cap,rfl,h1,by rw [hts.2];exact h2,hfit,h4,fun j hj=>?_,fun j hj=>⟨?_,(World.frozen?_setCells g _ _ _ _).trans (h6 j hj).2⟩⟩⟩,⟨World.os_setCells _ _ _ _,hts.1,World.output_setCells _ _ _ _,Nat.le_of_eq hts.2.symm,fun k hk hne=>World.heap_setCells_other w g _ news hk (fun e=>hne (by rw [e];rfl))⟩,.inl rfl⟩
   ·rw [Nat.add_mul] at hj
    by_cases hjo:j<n*i.size
    ·rw [World.cell?_setCells_out g _ _ _ _ (fun _ _=>Or.inl (by show off+j<off+n*i.size;omega)),List.getElem?_append_left (by omega)]
     exact h5 j hjo
    ·have ht':j - n*i.size<news.length:=by omega
     have:=World.cell?_setCells_in g news (off+n*i.size) w hsome (j - n*i.size) ht'
     rw [show off+n*i.size+(j - n*i.size)=off+j by omega] at this
     rw [this,List.getElem?_append_right (by omega),hxl,List.getElem?_eq_getElem ht']
   ·by_cases hin:n*i.size≤j∧j<n*i.size+news.length
    ·have:=World.cell?_setCells_in g news (off+n*i.size) w hsome (j - n*i.size) (by omega)
     rw [show off+n*i.size+(j - n*i.size)=off+j by omega] at this
     rw [this];rfl
    ·rw [World.cell?_setCells_out g _ _ _ _ (fun _ _=>by show off+j<off+n*i.size∨off+n*i.size+news.length≤off+j;omega)]
     exact (h6 j hj).1
  ·refine grow (some ⟨g,off,none⟩) cap rfl (by omega) ?_
   refine run_firstCells_some w.drew i.size n ⟨g,off,none⟩ n cap xs hxl (fun j u hu=>?_)
   rw [Addr.add_lit]
   have hj:j<n*i.size:=by
    have:=(List.getElem?_eq_some_iff.1 hu).1
    omega
   exact (h5 j hj).trans hu
theorem wpList_append_que (w : World) {ops : Array Oper} {rest : List Oper} {o : Oper} {a : Act} {Q : Exit → Act → World → Prop} (hgd : o.guard = none) (s x : Operand) (t tx : TypeId)
    (ho:o.op=.call { callee:=.builtin .append,args:=#[s,x],argTypes:=#[t,tx] })
    {base:Nat} {e:TypeId} {size:Nat} (i:TypeInfo) (z:Value) (bytes:Nat) (ht:P.underlying t=some (.slice e)) (hi:P.info? e=some i) (hz:i.zero=some z) (hsize:i.size=size) (hby:i.bytes=bytes) (hzs:z.cells.size=size)
    {v:Value} {n:Nat} {xs:List Value} (hv:a.eval s=v) (h:Que w base size v n xs) (hb:base≤w.heap.size)
    (xv:Value) (m:Nat) (news:List Value) (hx:a.eval x=xv) (hs:Src P size tx xv m news w) (h63:n+m≤maxLen) (hbytes:(n+m)*bytes≤140737488355328)
    (hK:∀ v' w',Que w' base size v' (n+m) (xs++news)→w.grownBy w' v.ownBlock→(v'.ownBlock=v.ownBlock∨v'.ownBlock=some w.heap.size)→wpList P ops Q rest (a.put o.dst v') w'):wpList P ops Q (o :: rest) a w:=by
 refine wpList_plain hgd fun K hK'=>?_
 obtain ⟨v',w',hrun,r1,r2,r3⟩:=run_append_que (P:=P) t tx o.type e i z size bytes ht hi hz hsize hby hzs h hb xv m news hs h63 hbytes
 unfold Oper.wp
 simp [execOp,ho,resolve,invoke,builtin,hv,hx,hrun,Result.andThen]
 exact hK' _ _ (hK v' w' r1 r2 r3)
end
end Go.Proofs.YtlfdfkbmollaaaaGreatDoor

namespace Go.Proofs.YtlfdfkbmollaaaaGreatDoor
abbrev NN:=Nat × Nat
def PathN (R:NN→List NN):Nat→NN→NN→Prop
 | 0,x,y => y∈R x
 | n+1,x,y => ∃ z,z∈R x∧PathN R n z y
def Path (R:NN→List NN) (x y:NN):Prop:=∃ n,PathN R n x y
theorem Path.one {R:NN→List NN} {x y:NN} (h:y∈R x):Path R x y:=⟨0,h⟩
theorem PathN.snoc {R:NN→List NN} {y z:NN} (h:z∈R y):∀ {n:Nat} {x:NN},PathN R n x y→PathN R (n+1) x z
 | 0,_,hx => ⟨y,hx,h⟩
 | _+1,_,⟨u,hu,hp⟩ => ⟨u,hu,PathN.snoc h hp⟩
theorem Path.snoc {R:NN→List NN} {x y z:NN} (h:Path R x y) (hz:z∈R y):Path R x z:=by obtain ⟨n,h⟩:=h;exact ⟨n+1,h.snoc hz⟩
theorem Path.cons {R:NN→List NN} {x y z:NN} (h:y∈R x) (hz:Path R y z):Path R x z:=by obtain ⟨n,hz⟩:=hz;exact ⟨n+1,y,h,hz⟩
structure Dfs (R:NN→List NN) (V:NN→Prop) (s:NN) (S rest:List NN) (x:NN) (todo:List NN):Prop where
 reach:∀ y,y∈S→Path R s y
 stack:∀ y,y∈rest→y=s∨y∈S
 cur:x=s∨x∈S
 sub:∀ y,y∈todo→y∈R x
 noself:s∉S
 nodup:S.Nodup
 valid:∀ y,y∈S→V y
 vs:V s
 closed:∀ z,(z=s∨z∈S)→z∉rest→∀ y,y∈R z→y∈S∨(z=x∧y∈todo)
section
variable {R:NN→List NN} {V:NN→Prop} {s:NN} {S rest:List NN} {x:NN}
theorem Dfs.start (hv:V s):Dfs R V s [] [s] s []:=
 ⟨by simp, by simp, .inl rfl, by simp, by simp, List.nodup_nil, by simp, hv, fun z h hn => by rcases h with h | h
                                                                                              ·exact absurd (by rw [h];simp) hn
                                                                                              ·cases h⟩
theorem Dfs.pop {y:NN} (h:Dfs R V s S (rest++[y]) x []):Dfs R V s S rest y (R y):=by
 refine ⟨h.reach,fun z hz=>h.stack z (by simp [hz]),h.stack y (by simp),fun z hz=>hz,h.noself,h.nodup,h.valid,h.vs,fun z hz hn u hu=>?_⟩
 by_cases e:z=y
 ·subst e;exact .inr ⟨rfl,hu⟩
 ·rcases h.closed z hz (by simp [hn,e]) u hu with h' | ⟨_,h'⟩
  ·exact .inl h'
  ·cases h'
theorem Dfs.skip {y:NN} {t:List NN} (h:Dfs R V s S rest x (y :: t)) (hy:y∈S):Dfs R V s S rest x t:=by
 refine ⟨h.reach,h.stack,h.cur,fun z hz=>h.sub z (by simp [hz]),h.noself,h.nodup,h.valid,h.vs,fun z hz hn u hu=>?_⟩
 rcases h.closed z hz hn u hu with h' | ⟨e,h'⟩
 ·exact .inl h'
 ·rcases List.mem_cons.1 h' with e' | h'
  ·subst e';exact .inl hy
  ·exact .inr ⟨e,h'⟩
theorem Dfs.reached {t:List NN} (h:Dfs R V s S rest x t) {y:NN} (hy:y∈R x):Path R s y:=by
 rcases h.cur with e | e
 ·subst e;exact .one hy
 ·exact (h.reach x e).snoc hy
theorem Dfs.push {y:NN} {t:List NN} (h:Dfs R V s S rest x (y :: t)) (hy:y∉S) (hs:y≠s) (hv:V y):Dfs R V s (S++[y]) (rest++[y]) x t:=by
 have hr:=h.reached (h.sub y (by simp))
 refine ⟨fun z hz=>?_,fun z hz=>?_,h.cur.imp id (fun e=>by simp [e]),fun z hz=>h.sub z (by simp [hz]),?_,?_,fun z hz=>?_,h.vs,fun z hz hn u hu=>?_⟩
 ·rcases List.mem_append.1 hz with hz | hz
  ·exact h.reach z hz
  ·simp at hz;subst hz;exact hr
 ·rcases List.mem_append.1 hz with hz | hz
  ·exact (h.stack z hz).imp id (fun e=>by simp [e])
  ·simp at hz;subst hz;exact .inr (by simp)
 ·intro hm
  rcases List.mem_append.1 hm with hm | hm
  ·exact h.noself hm
  ·simp at hm;exact hs hm.symm
 ·rw [List.nodup_append]
  exact ⟨h.nodup,by simp,fun a ha b hb=>by simp at hb;subst hb;intro e;subst e;exact hy ha⟩
 ·rcases List.mem_append.1 hz with hz | hz
  ·exact h.valid z hz
  ·simp at hz;subst hz;exact hv
 ·have hzy:z≠y:=fun e=>hn (by simp [e])
  have hz':z=s∨z∈S:=hz.imp id (fun e=>by
   rcases List.mem_append.1 e with e | e
   ·exact e
   ·simp at e;exact absurd e hzy)
  rcases h.closed z hz' (fun e=>hn (by simp [e])) u hu with h' | ⟨e,h'⟩
  ·exact .inl (by simp [h'])
  ·rcases List.mem_cons.1 h' with e' | h'
   ·subst e';exact .inl (by simp)
   ·exact .inr ⟨e,h'⟩
theorem Dfs.hit {t:List NN} (h:Dfs R V s S rest x (s :: t)):Path R s s:=h.reached (h.sub s (by simp))
theorem Dfs.none (h:Dfs R V s S [] x []):¬Path R s s:=by
 have key:∀ n z,(z=s∨z∈S)→∀ y,PathN R n z y→y∈S:=by
  intro n
  induction n with
  | zero =>
   intro z hz y hy
   rcases h.closed z hz (by simp) y hy with h' | ⟨_,h'⟩
   ·exact h'
   ·cases h'
  | succ n ih =>
   rintro z hz y ⟨u,hu,hp⟩
   rcases h.closed z hz (by simp) u hu with h' | ⟨_,h'⟩
   ·exact ih u (.inr h') y hp
   ·cases h'
 rintro ⟨n,hn⟩
 exact h.noself (key n s (.inl rfl) s hn)
end
theorem nodup_le {α:Type}:∀ (S l:List α),S.Nodup→(∀ y,y∈S→y∈l)→S.length≤l.length
 | [],_,_,_ => by simp
 | x :: S,l,hn,hs => by
  obtain ⟨a,b,hl⟩:=List.append_of_mem (hs x (by simp))
  subst hl
  rw [List.nodup_cons] at hn
  have:=nodup_le S (a++b) hn.2 (fun y hy=>by
   have h1:=hs y (by simp [hy])
   simp only [List.mem_append,List.mem_cons] at h1 ⊢
   rcases h1 with h1 | h1 | h1
   ·exact .inl h1
   ·subst h1;exact absurd hy hn.1
   ·exact .inr h1)
  simp at this ⊢;omega
end Go.Proofs.YtlfdfkbmollaaaaGreatDoor
