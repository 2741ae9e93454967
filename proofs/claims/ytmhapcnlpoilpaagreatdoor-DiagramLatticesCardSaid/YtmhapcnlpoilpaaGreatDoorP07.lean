/- Contracts and laws in plain Lean for RApp: group P07. -/
import Derived.Test.YtmhapcnlpoilpaaGreatDoorP01
import Derived.WalkSmall
import Derived.Test.YtmhapcnlpoilpaaGreatDoorP06
import Derived.Laws.Bits64b
import Derived.Deep.LoopGhost
import Derived.Lib.AppendZeros
import Derived.Lib.QuietBelow
import Derived.Test.YtmhapcnlpoilpaaGreatDoorP05
namespace Go.Proofs.YtmhapcnlpoilpaaGreatDoor
open Go.RowKit
end Go.Proofs.YtmhapcnlpoilpaaGreatDoor

namespace Go.Proofs.YtmhapcnlpoilpaaGreatDoor
open Go.RowKit
end Go.Proofs.YtmhapcnlpoilpaaGreatDoor

namespace Go.Proofs.YtmhapcnlpoilpaaGreatDoor
open Go.RowKit Go.Shelf
noncomputable def Tr.bk (T:Tr) (x:NN):List NN:=(if 0<x.2 then [(x.1,x.2 - 1)] else [])++(if T.kind x.1 x.2=3 then [T.sndN x] else [])
def BackPost (w:World) (l:List (Int × Int)) (e:Ending) (w':World):Prop:=∃ v,e=.returned v∧EvOwn w' w.heap.size v l∧Ext w w'
end Go.Proofs.YtmhapcnlpoilpaaGreatDoor

namespace Go.Proofs.YtmhapcnlpoilpaaGreatDoor
inductive Tr.Past (T:Tr) (x:NN):NN→Prop
 | self:Tr.Past T x x
 | step {y z:NN}:Tr.Past T x y→T.Dir z y→Tr.Past T x z
theorem Tr.mem_bk {T:Tr} {y z:NN}:z∈T.bk y↔T.Dir z y:=by
 unfold Tr.bk Tr.Dir
 rw [List.mem_append]
 constructor
 ·rintro (h | h)
  ·split at h
   ·simp at h;subst h;left;exact ⟨rfl,by show y.2=y.2 - 1+1;omega⟩
   ·cases h
  ·split at h
   ·next hk=>simp at h;exact .inr ⟨hk,h⟩
   ·cases h
 ·rintro (⟨h1,h2⟩ | ⟨h1,h2⟩)
  ·left;rw [if_pos (by omega)];simp;exact Prod.ext h1.symm (by show z.2=y.2 - 1;omega)
  ·right;rw [if_pos h1];simp [h2]
theorem Tr.bk_len (T:Tr) (y:NN):(T.bk y).length≤2:=by
 unfold Tr.bk;rw [List.length_append];split <;> split <;> simp
theorem Tr.Past.V {T:Tr} {x y:NN} (hx:T.V x) (h:T.Past x y):T.V y:=by
 induction h with
 | self => exact hx
 | step _ d ih => exact Tr.Dir.V ih d
def updC (c:Nat→Nat) (p v:Nat):Nat→Nat:=fun k=>if k=p then v else c k
theorem tot_add {f g:Nat→Nat} {p d:Nat}:∀ {n:Nat},p<n→(∀ k,k≠p→f k=g k)→f p=g p+d→tot f n=tot g n+d
 | 0,h,_,_ => by omega
 | n+1,h,ho,hp => by
  unfold tot
  by_cases e:p=n
  ·subst e
   rw [tot_congr (f:=f) (g:=g) fun k hk=>ho k (by omega),hp];omega
  ·rw [tot_add (f:=f) (g:=g) (n:=n) (by omega) ho hp,ho n (fun h=>e h.symm)];omega
end Go.Proofs.YtmhapcnlpoilpaaGreatDoor

namespace Go.Proofs.YtmhapcnlpoilpaaGreatDoor
open Go.RowKit Go.Shelf
structure CRow (w:World) (g n:Nat) (c:Nat→Nat):Prop where
 c:∀ k,k<n→w.cell? ⟨g,k,none⟩=some (.int .i64 (c k))
 fr:∀ o,w.frozen? ⟨g,o,none⟩=false
 lt:g<w.heap.size
theorem CRow.block {w w':World} {g n:Nat} {c:Nat→Nat} (h:CRow w g n c) (hs:w.heap.size≤w'.heap.size) (x:w'.heap[g]?=w.heap[g]?):CRow w' g n c:=
 ⟨fun k hk=>(World.cell?_of_block (w:=w) (a:=⟨g,k,none⟩) x).trans (h.c k hk),fun o=>(World.frozen?_of_block (w:=w) (a:=⟨g,o,none⟩) x).trans (h.fr o),Nat.lt_of_lt_of_le h.lt hs⟩
theorem CRow.ext {w w':World} {g n:Nat} {c:Nat→Nat} (h:CRow w g n c) (x:Ext w w'):CRow w' g n c:=h.block x.le (x.block g h.lt)
theorem CRow.made {w:World} {base g n:Nat} (h:w.ownsRow base 3 1 (.slice (some ⟨g,0,none⟩) n n) n (madeCells (Value.int .i64 0).cells (n*1)).toList):CRow w g n (fun _=>0):=by
 obtain ⟨h1,⟨hv,_⟩ | ⟨g',cap,cur,hv,hg,hh,hc,hm,hs,ht⟩⟩:=h
 ·cases hv
 ·simp only [Value.slice.injEq,Option.some.injEq,Addr.mk.injEq] at hv
  obtain ⟨⟨rfl,_⟩,_,rfl⟩:=hv
  have hb:=Box.of hh
  have hz:(Value.int .i64 0).cells=#[.int .i64 0]:=rfl
  rw [hz,toList_madeCells_one] at ht
  refine ⟨fun k hk=>?_,fun o=>hb.frozen w (Ext.refl _) o,hb.lt w (Ext.refl _)⟩
  rw [hb.cell w (Ext.refl _)]
  have:cur[k]?=(List.replicate (n*1) (Value.int .i64 0))[k]?:=by rw [←ht,List.getElem?_take_of_lt (by omega)];simp
  rw [this,List.getElem?_replicate,if_pos (by omega)];rfl
theorem CRow.set {w:World} {g n:Nat} {c:Nat→Nat} (h:CRow w g n c) (q v:Nat) (hq:q<n):CRow (w.setCell ⟨g,q,none⟩ (.int .i64 v)) g n (updC c q v):=by
 refine ⟨fun k hk=>?_,fun o=>?_,by rw [World.size_setCell];exact h.lt⟩
 ·unfold updC
  by_cases e:k=q
  ·subst e
   rw [if_pos rfl];exact World.cell?_setCell_same _ _ _ (h.c k hk)
  ·rw [if_neg e];refine Eq.trans ?_ (h.c k hk);apply World.cell?_setCell_other;intro h9;simp only [Addr.mk.injEq] at h9;exact e h9.2.1.symm
 ·rw [frozen_set];exact h.fr o
theorem evCells_one (l:List (Int × Int)):∀ u∈evCells l,u.oneCell'=true:=by
 intro u hu
 simp only [evCells,List.mem_flatMap] at hu
 obtain ⟨x,_,hx⟩:=hu
 simp at hx
 rcases hx with rfl | rfl <;> rfl
theorem drewd {w:World} {n:Nat} {G:World→Prop} (h:∀ w',Ext w w'→G w'):G (w.drewN n):=h _ ((Ext.refl _).drewN _)
end Go.Proofs.YtmhapcnlpoilpaaGreatDoor

namespace Go.Proofs.YtmhapcnlpoilpaaGreatDoor
end Go.Proofs.YtmhapcnlpoilpaaGreatDoor
