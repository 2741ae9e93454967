/- Contracts and laws in plain Lean for RApp: group W45. -/
import Derived.Test.YtkhgpockmaghjaaGreatW01
import Derived.Test.YtkhgpockmaghjaaGreatW18
import Derived.Test.YtkhgpockmaghjaaGreatW06
import Derived.Test.YtkhgpockmaghjaaGreatW05
set_option maxRecDepth 100000
namespace Go.Proofs.YtkhgpockmaghjaaGreat
def Rch (G:NN→List NN) (A:List NN) (y:NN):Prop:=∃ a∈A,a=y∨Path G a y
structure Bfs (G:NN→List NN) (V:NN→Prop) (A:List NN) (t:NN) (S Q:List NN):Prop where
 snd:∀ y,y∈S∨y∈Q→Rch G A y
 start:∀ a,a∈A→a∈S∨a∈Q
 closed:∀ z,z∈S→∀ y,y∈G z→y∈S∨y∈Q
 tgt:t∉S
 nodup:S.Nodup
 vs:∀ y,y∈S→V y
 vq:∀ y,y∈Q→V y
section
variable {G:NN→List NN} {V:NN→Prop} {A:List NN} {t:NN} {S Q:List NN} {x:NN}
theorem Bfs.init (hA:∀ y,y∈A→V y):Bfs G V A t [] A:=by
 refine ⟨fun y h=>?_,fun a h=>.inr h,fun z h=>(by cases h),by simp,List.nodup_nil,fun y h=>(by cases h),hA⟩
 rcases h with h | h
 ·cases h
 ·exact ⟨y,h,.inl rfl⟩
theorem Bfs.skip (h:Bfs G V A t S (x :: Q)) (hx:x∈S):Bfs G V A t S Q:=by
 have key:∀ y,y∈S∨y∈x :: Q→y∈S∨y∈Q:=fun y hy=>by
  rcases hy with hy | hy
  ·exact .inl hy
  ·rcases List.mem_cons.1 hy with e | hy
   ·subst e;exact .inl hx
   ·exact .inr hy
 exact ⟨fun y hy=>h.snd y (hy.imp id (List.mem_cons_of_mem _)),fun a ha=>key a (h.start a ha),fun z hz y hy=>key y (h.closed z hz y hy),h.tgt,h.nodup,h.vs,fun y hy=>h.vq y (List.mem_cons_of_mem _ hy)⟩
theorem Rch.step (h:Rch G A x) {y:NN} (hy:y∈G x):Rch G A y:=by
 obtain ⟨a,ha,e | hp⟩:=h
 ·subst e;exact ⟨a,ha,.inr (.one hy)⟩
 ·exact ⟨a,ha,.inr (hp.snoc hy)⟩
theorem Bfs.push (h:Bfs G V A t S (x :: Q)) (hx:x∉S) (ht:x≠t) (hG:∀ y,y∈G x→V y):Bfs G V A t (S++[x]) (Q++G x):=by
 have key:∀ y,y∈S∨y∈x :: Q→y∈S++[x]∨y∈Q++G x:=fun y hy=>by
  rcases hy with hy | hy
  ·exact .inl (List.mem_append_left _ hy)
  ·rcases List.mem_cons.1 hy with e | hy
   ·subst e;exact .inl (by simp)
   ·exact .inr (List.mem_append_left _ hy)
 have hrx:=h.snd x (.inr List.mem_cons_self)
 refine ⟨fun y hy=>?_,fun a ha=>key a (h.start a ha),fun z hz y hy=>?_,fun hm=>?_,?_,fun y hy=>?_,fun y hy=>?_⟩
 ·rcases hy with hy | hy
  ·rcases List.mem_append.1 hy with hy | hy
   ·exact h.snd y (.inl hy)
   ·rw [List.mem_singleton.1 hy];exact hrx
  ·rcases List.mem_append.1 hy with hy | hy
   ·exact h.snd y (.inr (List.mem_cons_of_mem _ hy))
   ·exact hrx.step hy
 ·rcases List.mem_append.1 hz with hz | hz
  ·exact key y (h.closed z hz y hy)
  ·rw [List.mem_singleton.1 hz] at hy
   exact .inr (List.mem_append_right _ hy)
 ·rcases List.mem_append.1 hm with hm | hm
  ·exact h.tgt hm
  ·exact ht (List.mem_singleton.1 hm).symm
 ·rw [List.nodup_append]
  exact ⟨h.nodup,by simp,fun a ha b hb=>by simp at hb;subst hb;intro e;subst e;exact hx ha⟩
 ·rcases List.mem_append.1 hy with hy | hy
  ·exact h.vs y hy
  ·rw [List.mem_singleton.1 hy];exact h.vq x List.mem_cons_self
 ·rcases List.mem_append.1 hy with hy | hy
  ·exact h.vq y (List.mem_cons_of_mem _ hy)
  ·exact hG y hy
theorem Bfs.hit (h:Bfs G V A t S (t :: Q)):Rch G A t:=h.snd t (.inr List.mem_cons_self)
theorem Bfs.none (h:Bfs G V A t S []):¬Rch G A t:=by
 have hn:∀ y,y∈([]:List NN)→False:=fun y hy=>by cases hy
 have key:∀ n z,z∈S→∀ y,PathN G n z y→y∈S:=by
  intro n
  induction n with
  | zero => intro z hz y hy;exact (h.closed z hz y hy).resolve_right (hn y)
  | succ n ih =>
   rintro z hz y ⟨u,hu,hp⟩
   exact ih u ((h.closed z hz u hu).resolve_right (hn u)) y hp
 rintro ⟨a,ha,e | ⟨n,hp⟩⟩
 ·subst e;exact h.tgt ((h.start a ha).resolve_right (hn a))
 ·exact h.tgt (key n a ((h.start a ha).resolve_right (hn a)) t hp)
end
end Go.Proofs.YtkhgpockmaghjaaGreat

namespace Go.Proofs.YtkhgpockmaghjaaGreat
open Go.ChangeShapes Go.WideShapes Go.RowKit Go.Deep
structure SyD where
 s:SlD
 x:Nat→Int × Int
 y:Nat→Int × Int
instance:Inhabited SyD:=⟨⟨default,fun _=>(0,0),fun _=>(0,0)⟩⟩
abbrev Syn:=(Int × Int) × (Int × Int)
def SyD.at (d:SyD) (i:Nat):Syn:=(d.x i,d.y i)
def SyD.l (d:SyD):List Syn:=(List.range d.s.n).map d.at
theorem SyD.len (d:SyD):d.l.length=d.s.n:=by simp [SyD.l]
theorem SyD.get (d:SyD) {i:Nat} (h:i<d.s.n):d.l[i]?=some (d.at i):=by simp [SyD.l,h]
theorem SyD.mem {d:SyD} {x:Syn}:x∈d.l↔∃ i,i<d.s.n∧x=d.at i:=by
 unfold SyD.l
 rw [List.mem_map]
 constructor
 ·rintro ⟨i,hi,rfl⟩;exact ⟨i,List.mem_range.1 hi,rfl⟩
 ·rintro ⟨i,hi,rfl⟩;exact ⟨i,List.mem_range.2 hi,rfl⟩
theorem SyD.take {d:SyD} {k:Nat} (h:k≤d.s.n):d.l.take k=(List.range k).map d.at:=by
 unfold SyD.l
 rw [←List.map_take,List.take_range,Nat.min_eq_left h]
structure SyD.At (d:SyD) (w:World):Prop where
 hn:d.s.n≤140737488355328
 ha:0<d.s.n→d.s.a=some ⟨d.s.b,d.s.o,none⟩
 hb:0<d.s.n→d.s.b<w.heap.size
 c0:∀ i,i<d.s.n→w.cell? ⟨d.s.b,d.s.o+i*4,none⟩=some (.int .i64 (d.x i).1)
 c1:∀ i,i<d.s.n→w.cell? ⟨d.s.b,d.s.o+i*4+1,none⟩=some (.int .i64 (d.x i).2)
 c2:∀ i,i<d.s.n→w.cell? ⟨d.s.b,d.s.o+i*4+2,none⟩=some (.int .i64 (d.y i).1)
 c3:∀ i,i<d.s.n→w.cell? ⟨d.s.b,d.s.o+i*4+3,none⟩=some (.int .i64 (d.y i).2)
 o0:∀ i,i<d.s.n→okI (d.x i).1∧okI (d.x i).2∧okI (d.y i).1∧okI (d.y i).2
 hc:d.s.n≤d.s.c
theorem SyD.At.ext {d:SyD} {w w':World} (h:d.At w) (x:Ext w w'):d.At w':=
 ⟨h.hn,h.ha,fun h0=>Nat.lt_of_lt_of_le (h.hb h0) x.le,fun i hi=>x.cell (h.c0 i hi),fun i hi=>x.cell (h.c1 i hi),fun i hi=>x.cell (h.c2 i hi),fun i hi=>x.cell (h.c3 i hi),h.o0,h.hc⟩
end Go.Proofs.YtkhgpockmaghjaaGreat

namespace Go.Proofs.YtkhgpockmaghjaaGreat
open Go.RowKit
def Tr.Ex (T:Tr) (p i:Int):Prop:=0≤p∧p<T.n∧1≤i∧i≤T.en p.toNat
def SynOk (T:Tr) (L:List Syn):Prop:=∀ s,s∈L→T.Ex s.1.1 s.1.2∧T.Ex s.2.1 s.2.2
def nnOf (x:Int × Int):NN:=(x.1.toNat,(x.2 - 1).toNat)
theorem nnOf_evI (x:NN):nnOf (evI x)=x:=by unfold nnOf evI;exact Prod.ext (by simp) (by simp)
theorem Tr.Ex.V {T:Tr} {p i:Int} (h:T.Ex p i):T.V (nnOf (p,i))∧evI (nnOf (p,i))=(p,i):=by
 obtain ⟨h1,h2,h3,h4⟩:=h
 exact ⟨⟨by show p.toNat<T.n;omega,by show (i - 1).toNat<T.en p.toNat;omega⟩,Prod.ext (by show ((p.toNat:Nat):Int)=p;omega) (by show (((i - 1).toNat:Nat):Int)+1=i;omega)⟩
theorem SynOk.nn {T:Tr} {L:List Syn} (h:SynOk T L) {s:Syn} (hs:s∈L):∃ x y:NN,T.V x∧T.V y∧s=(evI x,evI y):=by
 obtain ⟨h1,h2⟩:=h s hs
 exact ⟨nnOf s.1,nnOf s.2,h1.V.1,h2.V.1,Prod.ext h1.V.2.symm h2.V.2.symm⟩
theorem SynOk.mono {T:Tr} {L M:List Syn} (h:SynOk T L) (hm:∀ s,s∈M→s∈L):SynOk T M:=fun s hs=>h s (hm s hs)
def toL (L:List Syn) (x:NN):List NN:=L.filterMap fun s=>if s.1=evI x then some (nnOf s.2) else none
def Tr.fw (T:Tr) (x:NN):List NN:=T.succ (Ltr.of T T.evs) x
def Tr.gr (T:Tr) (L:List Syn) (x:NN):List NN:=T.fw x++toL L x
theorem mem_toL {L:List Syn} {x y:NN} (hL:∀ s,s∈L→∃ z:NN,s.2=evI z):y∈toL L x↔(evI x,evI y)∈L:=by
 unfold toL
 rw [List.mem_filterMap]
 constructor
 ·rintro ⟨s,hs,h⟩
  split at h
  ·next e=>
   obtain ⟨z,hz⟩:=hL s hs
   rw [hz,nnOf_evI] at h
   cases h
   rw [←e,←hz];exact hs
  ·cases h
 ·intro h
  exact ⟨_,h,by rw [if_pos rfl,nnOf_evI]⟩
theorem SynOk.to {T:Tr} {L:List Syn} (h:SynOk T L):∀ s,s∈L→∃ z:NN,s.2=evI z:=fun s hs=>⟨nnOf s.2,(h s hs).2.V.2.symm⟩
theorem mem_gr {T:Tr} {L:List Syn} (h:SynOk T L) {x y:NN}:y∈T.gr L x↔y∈T.fw x∨(evI x,evI y)∈L:=by
 unfold Tr.gr
 rw [List.mem_append,mem_toL h.to]
theorem letters_ok {T:Tr} (_:T.Valid):(Ltr.of T T.evs).Ok T:=by
 intro m hm hpos
 rcases Ltr.of_from T.evs Ltr.zero m with ⟨h1,_⟩ | ⟨x,_,k3,hmm,h1,h2⟩
 ·have h1':(Ltr.of T T.evs).ti m=Ltr.zero.ti m:=h1
  rw [h1'] at hpos
  exact absurd hpos (by simp [Ltr.zero])
 ·exact ⟨x.1.1,x.1.2,x.2.1,x.2.2,h1,h2⟩
theorem fw_V {T:Tr} (h:T.Valid) {x y:NN} (hx:T.V x) (hy:y∈T.fw x):T.V y:=succ_valid (letters_ok h) hx (h.formed ⟨x,hx⟩) y hy
theorem gr_V {T:Tr} (h:T.Valid) {L:List Syn} (hL:SynOk T L) {x y:NN} (hx:T.V x) (hy:y∈T.gr L x):T.V y:=by
 rcases (mem_gr hL).1 hy with h1 | h1
 ·exact fw_V h hx h1
 ·have h2:=(hL _ h1).2.V.1
  rw [nnOf_evI] at h2;exact h2
theorem gr_len (T:Tr) (L:List Syn) (x:NN):(T.gr L x).length≤2+L.length:=by
 unfold Tr.gr Tr.fw Tr.succ toL
 rw [List.length_append,List.length_append]
 have:=List.length_filterMap_le (fun s:Syn=>if s.1=evI x then some (nnOf s.2) else none) L
 have h1:(if x.2+1<T.en x.1 then [((x.1,x.2+1):NN)] else []).length≤1:=by split <;> simp
 have h2:(if T.kind x.1 x.2=2∧0<(Ltr.of T T.evs).ti (T.msg x.1 x.2).toNat then [((((Ltr.of T T.evs).tp (T.msg x.1 x.2).toNat).toNat,((Ltr.of T T.evs).ti (T.msg x.1 x.2).toNat - 1).toNat):NN)] else []).length≤1:=by split <;> simp
 omega
def Tr.NoCyc (T:Tr) (L:List Syn):Prop:=∀ x,T.V x→¬Path (T.gr L) x x
theorem Tr.NoCyc.ind {T:Tr} {L:List Syn} (hA:T.NoCyc L) {P:NN→Prop} (step:∀ y,T.V y→(∀ x,T.V x→y∈T.gr L x→P x)→P y):∀ y,T.V y→P y:=by
 refine fun y0 hy0=>Classical.byContradiction fun hn0=>?_
 have key:∀ n,∃ (z:NN) (S:List NN),(z :: S).Nodup∧S.length=n∧¬P z∧(∀ u,u∈z :: S→T.V u)∧∀ u,u∈S→Path (T.gr L) z u:=by
  intro n
  induction n with
  | zero => exact ⟨y0,[],by simp,rfl,hn0,by simpa using hy0,by simp⟩
  | succ n ih =>
   obtain ⟨z,S,hnd,hl,hz,hv,hp⟩:=ih
   have hvz:=hv z List.mem_cons_self
   obtain ⟨x,hx,hd,hnx⟩:∃ x,T.V x∧z∈T.gr L x∧¬P x:=Classical.byContradiction fun hc=>hz (step z hvz fun x hx hd=>Classical.byContradiction fun hnx=>hc ⟨x,hx,hd,hnx⟩)
   have hpx:∀ u,u∈z :: S→Path (T.gr L) x u:=by
    intro u hu
    rcases List.mem_cons.1 hu with e | hu
    ·subst e;exact Path.one hd
    ·obtain ⟨k,hk⟩:=hp u hu;exact ⟨k+1,z,hd,hk⟩
   refine ⟨x,z :: S,?_,by simp [hl],hnx,?_,hpx⟩
   ·refine List.nodup_cons.2 ⟨fun hm=>hA x hx (hpx x hm),hnd⟩
   ·intro u hu
    rcases List.mem_cons.1 hu with e | hu
    ·subst e;exact hx
    ·exact hv u hu
 obtain ⟨z,S,hnd,hl,_,hv,_⟩:=key T.evs.length
 have:=evs_count hnd hv
 simp at this;omega
end Go.Proofs.YtkhgpockmaghjaaGreat

namespace Go.Proofs.YtkhgpockmaghjaaGreat
open Go.RowKit Go.Shelf
def EMap (w:World) (b:Nat) (L:List ((Int × Int) × Value)):Prop:=
 ∃ es clock,w.heap[b]?=some (.map es clock)∧es.toList.map (fun e=>(e.key,e.val))=L.map (fun x=>(evV x.1,x.2))∧(∀ x∈es.toList,x.born<clock)∧(es.toList.map (·.born)).Nodup
theorem EMap.same {w w':World} {b:Nat} {L:List ((Int × Int) × Value)} (h:EMap w b L) (x:w'.heap[b]?=w.heap[b]?):EMap w' b L:=by
 obtain ⟨es,c,hb,he⟩:=h
 exact ⟨es,c,x.trans hb,he⟩
theorem EMap.lt {w:World} {b:Nat} {L:List ((Int × Int) × Value)} (h:EMap w b L):b<w.heap.size:=by
 obtain ⟨es,c,hb,he⟩:=h;exact (Array.getElem?_eq_some_iff.1 hb).1
theorem EMap.ext {w w':World} {b:Nat} {L:List ((Int × Int) × Value)} (h:EMap w b L) (x:Ext w w'):EMap w' b L:=h.same (x.block b h.lt)
theorem EMap.new (w:World):EMap (w.alloc (.map #[] 0)) w.heap.size []:=⟨#[],0,by show (w.heap.push _)[w.heap.size]?=_;simp,rfl,by simp,by simp⟩
def placeE (y:Int × Int):List ((Int × Int) × Value)→Nat→Option (Nat × Value)
 | [],_ => none
 | x :: L,i => if y=x.1 then some (i,x.2) else placeE y L (i+1)
def lookE (y:Int × Int):List ((Int × Int) × Value)→Option Value
 | [] => none
 | x :: L => if y=x.1 then some x.2 else lookE y L
def updE (y:Int × Int) (v:Value):List ((Int × Int) × Value)→List ((Int × Int) × Value)
 | [] => [(y,v)]
 | x :: L => if y=x.1 then (y,v) :: L else x :: updE y v L
theorem placeE_look {y:Int × Int}:∀ (L:List ((Int × Int) × Value)) (i:Nat),match lookE y L with | none=>placeE y L i=none | some v=>∃ j,placeE y L i=some (i+j,v)
 | [],i => rfl
 | x :: L,i => by
  unfold lookE placeE
  by_cases e:y=x.1
  ·rw [if_pos e,if_pos e];exact ⟨0,rfl⟩
  ·rw [if_neg e,if_neg e]
   have h:=placeE_look (y:=y) L (i+1)
   cases hl:lookE y L with
   | none => rw [hl] at h;exact h
   | some v =>
    rw [hl] at h
    obtain ⟨j,hj⟩:=h
    exact ⟨j+1,by rw [hj];congr 2;omega⟩
theorem run_findAskingE (y : Int × Int) (w : World) : ∀ (es : List MapEntry) (L : List ((Int × Int) × Value)) (i : Nat), es.map (fun e => (e.key, e.val)) = L.map (fun x => (evV x.1, x.2)) →
    (Instr.findAsking 79 (evV y) es i).run Tryz.prog w=.ok (placeE y L i) w
 | [],[],i,_ => by simp [Instr.findAsking,placeE]
 | [],_ :: _,_,h => by simp at h
 | _ :: _,[],_,h => by simp at h
 | e :: es,x :: L,i,h => by
  simp only [List.map_cons,List.cons.injEq,Prod.mk.injEq] at h
  obtain ⟨⟨h1,h2⟩,h3⟩:=h
  have ih:=run_findAskingE y w es L (i+1) h3
  have he:=run_equal_ev y x.1 w
  rw [eq_pair] at he
  by_cases e':y=x.1
  ·subst e';simp [Instr.findAsking,Sem.run_bind,placeE,h1,h2,he]
  ·simp [Instr.findAsking,Sem.run_bind,placeE,h1,he,e',ih]
theorem run_findKeyE (y : Int × Int) (w : World) (es : List MapEntry) (L : List ((Int × Int) × Value)) (h : es.map (fun e => (e.key, e.val)) = L.map (fun x => (evV x.1, x.2))) :
    (Instr.findKey 79 (evV y) es).run Tryz.prog w=.ok (placeE y L 0) w:=by
 unfold Instr.findKey
 cases es with
 | nil =>
  cases L with
  | nil => simp [run_underlying Tryz.underlying79,Instr.findNow,placeE]
  | cons x L => simp at h
 | cons e es =>
  have hf:=run_findAskingE y w (e :: es) L 0 h
  simp [Sem.run_bind,run_underlying Tryz.underlying79,findNow_ev rfl,hf]
section
variable {w:World} {b:Nat} {L:List ((Int × Int) × Value)} {mt et:TypeId}
theorem EMap.look (h : EMap w b L) (hu : Tryz.prog.underlying mt = some (.map 79 et)) {y : Int × Int} {v : Value} (hv : lookE y L = some v) :
    (Instr.lookup mt (.map (some b)) (evV y) false).run Tryz.prog w=.ok v w:=by
 obtain ⟨es,clock,hb,he,_⟩:=h
 have hk:=fun c=>run_checkKey_ev c y w
 have hf:=run_findKeyE y w es.toList L he
 have hp:=placeE_look (y:=y) L 0
 rw [hv] at hp
 obtain ⟨j,hj⟩:=hp
 rw [hj] at hf
 simp [Instr.lookup,Sem.run_bind,run_underlying hu,getObj,Sem.run,hb,hk,hf]
theorem EMap.none (h : EMap w b L) (hu : Tryz.prog.underlying mt = some (.map 79 et)) {z : Value} (hz : (zeroValue et).run Tryz.prog w = .ok z w) {y : Int × Int} (hv : lookE y L = none) :
    (Instr.lookup mt (.map (some b)) (evV y) false).run Tryz.prog w=.ok z w:=by
 obtain ⟨es,clock,hb,he,_⟩:=h
 have hk:=fun c=>run_checkKey_ev c y w
 have hf:=run_findKeyE y w es.toList L he
 have hp:=placeE_look (y:=y) L 0
 rw [hv] at hp
 rw [hp] at hf
 simp [Instr.lookup,Sem.run_bind,run_underlying hu,getObj,Sem.run,hb,hk,hf,hz]
theorem updE_none {y:Int × Int} {v:Value}:∀ (L:List ((Int × Int) × Value)),lookE y L=Option.none→updE y v L=L++[(y,v)]
 | [],_ => rfl
 | x :: L,h => by
  unfold lookE at h
  unfold updE
  by_cases e:y=x.1
  ·rw [if_pos e] at h;cases h
  ·rw [if_neg e] at h
   rw [if_neg e,updE_none L h];rfl
theorem updE_mod {y : Int × Int} {v : Value} : ∀ (es : List MapEntry) (L : List ((Int × Int) × Value)) (i j : Nat) (u : Value), es.map (fun e => (e.key, e.val)) = L.map (fun x => (evV x.1, x.2)) → placeE y L i = some (i + j, u) →
    (es.modify j fun e=>{ e with key:=evV y,val:=v }).map (fun e=>(e.key,e.val))=(updE y v L).map (fun x=>(evV x.1,x.2))∧(es[j]?).map (·.key)=some (evV y)
 | [],[],i,j,u,_,h => by cases h
 | [],_ :: _,_,_,_,h,_ => by simp at h
 | _ :: _,[],_,_,_,h,_ => by simp at h
 | e :: es,x :: L,i,j,u,h,hp => by
  simp only [List.map_cons,List.cons.injEq,Prod.mk.injEq] at h
  obtain ⟨⟨h1,h2⟩,h3⟩:=h
  unfold placeE at hp
  unfold updE
  by_cases e':y=x.1
  ·rw [if_pos e'] at hp
   rw [if_pos e']
   simp only [Option.some.injEq,Prod.mk.injEq] at hp
   obtain rfl:j=0:=by omega
   simp [h3,h1,e']
  ·rw [if_neg e'] at hp
   rw [if_neg e']
   obtain ⟨j,rfl⟩:∃ k,j=k+1:=by
    cases j with
    | zero =>
     exfalso
     have h4:=placeE_look (y:=y) L (i+1)
     cases hl:lookE y L with
     | none => rw [hl] at h4;rw [h4] at hp;cases hp
     | some v' =>
      rw [hl] at h4
      obtain ⟨k,hk⟩:=h4
      rw [hk] at hp
      simp only [Option.some.injEq,Prod.mk.injEq] at hp
      omega
    | succ k => exact ⟨k,rfl⟩
   have ih:=updE_mod (y:=y) (v:=v) es L (i+1) j u h3 (by rw [hp];congr 2;omega)
   simp [h1,h2]
   exact ⟨by simpa using ih.1,by simpa using ih.2⟩
theorem born_mod (f:MapEntry→MapEntry) (hf:∀ e,(f e).born=e.born):∀ (es:List MapEntry) (j:Nat),(es.modify j f).map (·.born)=es.map (·.born)
 | [],j => by cases j <;> rfl
 | e :: es,0 => by simp [hf]
 | e :: es,j+1 => by simp [born_mod f hf es j]
theorem sameBits_ev (y:Int × Int):Instr.sameBits 10000 (evV y) (evV y)=true:=by simp [Instr.sameBits]
theorem EMap.put (h : EMap w b L) (hu : Tryz.prog.underlying mt = some (.map 79 et)) (y : Int × Int) (v : Value) :
    ∃ o,(Instr.mapUpdate mt (.map (some b)) (evV y) v).run Tryz.prog w=.ok () (w.putObj b o)∧EMap (w.putObj b o) b (updE y v L):=by
 obtain ⟨es,clock,hb,he,hbl,hnd⟩:=h
 have hk:=fun c=>run_checkKey_ev c y w
 have hf:=run_findKeyE y w es.toList L he
 have hp:=placeE_look (y:=y) L 0
 have hlt:=(Array.getElem?_eq_some_iff.1 hb).1
 cases hl:lookE y L with
 | none =>
  rw [hl] at hp
  rw [hp] at hf
  refine ⟨.map (es.push { key:=evV y,val:=v,born:=clock }) (clock+1),?_,es.push { key:=evV y,val:=v,born:=clock },clock+1,by simp [World.putObj,hlt],by rw [updE_none L hl];simp [he],?_,?_⟩
  ·simp [Instr.mapUpdate,Sem.run_bind,run_underlying hu,getObj,setObj,Sem.run,hb,hk,hf,World.putObj]
  ·intro x hx
   rw [Array.toList_push] at hx
   rcases List.mem_append.1 hx with hx | hx
   ·exact Nat.lt_succ_of_lt (hbl x hx)
   ·rw [List.mem_singleton.1 hx];exact Nat.lt_succ_self _
  ·rw [Array.toList_push,List.map_append,List.nodup_append]
   refine ⟨hnd,by simp,fun a ha c hc=>?_⟩
   obtain ⟨e,he',rfl⟩:=List.mem_map.1 ha
   have:=hbl e he'
   simp at hc
   omega
 | some u =>
  rw [hl] at hp
  obtain ⟨j,hj⟩:=hp
  rw [hj] at hf
  rw [Nat.zero_add] at hf hj
  obtain ⟨hm,hkey⟩:=updE_mod (y:=y) (v:=v) es.toList L 0 j u he (by rw [hj,Nat.zero_add])
  have hkey':(es[j]?.map (·.key)).getD (evV y)=evV y:=by
   rw [←Array.getElem?_toList,hkey];rfl
  have hbm:=born_mod (fun e=>{ e with key:=evV y,val:=v }) (fun _=>rfl) es.toList j
  refine ⟨.map (es.modify j fun e=>{ e with key:=evV y,val:=v }) clock,?_,es.modify j fun e=>{ e with key:=evV y,val:=v },clock,by simp [World.putObj,hlt],by rw [Array.toList_modify];exact hm,?_,?_⟩
  ·simp [Instr.mapUpdate,Sem.run_bind,run_underlying hu,getObj,setObj,Sem.run,hb,hk,hf,World.putObj,Instr.keyThatStays,hkey',sameBits_ev]
  ·intro x hx
   rw [Array.toList_modify] at hx
   have h1:x.born∈es.toList.map (·.born):=by rw [←hbm];exact List.mem_map.2 ⟨x,hx,rfl⟩
   obtain ⟨e,he',h2⟩:=List.mem_map.1 h1
   rw [←h2];exact hbl e he'
  ·rw [Array.toList_modify,hbm];exact hnd
end
theorem modify_congr {α:Type} {f g:α→α}:∀ {l:List α} {j:Nat},(∀ e,l[j]?=some e→f e=g e)→l.modify j f=l.modify j g
 | [],j,_ => by cases j <;> rfl
 | a :: l,0,h => by simp [h a rfl]
 | a :: l,j+1,h => by simp [modify_congr (l:=l) (j:=j) fun e he => h e (by simpa using he)]
theorem modify_self {α:Type} {f:α→α}:∀ {l:List α} {j:Nat},(∀ e,l[j]?=some e→f e=e)→l.modify j f=l
 | [],j,_ => by cases j <;> rfl
 | a :: l,0,h => by simp [h a rfl]
 | a :: l,j+1,h => by simp [modify_self (l:=l) (j:=j) fun e he => h e (by simpa using he)]
def EBack (W:World) (b:Nat) (L:List ((Int × Int) × Value)) (y:Int × Int) (s:Nat):Prop:=
 ∃ es clock j u,W.heap[b]?=some (.map es clock)∧es.toList.map (fun e=>(e.key,e.val))=L.map (fun x=>(evV x.1,x.2))∧(∀ x∈es.toList,x.born<clock)∧(es.toList.map (·.born)).Nodup∧placeE y L 0=some (j,u)∧(es.toList[j]?).map (·.born)=some s
theorem EBack.same {w w':World} {b:Nat} {L:List ((Int × Int) × Value)} {y:Int × Int} {s:Nat} (h:EBack w b L y s) (x:w'.heap[b]?=w.heap[b]?):EBack w' b L y s:=by
 obtain ⟨es,c,j,u,hb,he⟩:=h
 exact ⟨es,c,j,u,x.trans hb,he⟩
section
variable {w:World} {b:Nat} {L:List ((Int × Int) × Value)} {mt et:TypeId}
theorem EMap.entry (h : EMap w b L) (hu : Tryz.prog.underlying mt = some (.map 79 et)) {y : Int × Int} {v : Value} (hv : lookE y L = some v) :
    ∃ o s,(Instr.mapEntry mt (.map (some b)) (evV y)).run Tryz.prog w=.ok (.tuple #[v,goInt (s:Nat)]) (w.putObj b o)∧EBack (w.putObj b o) b L y s:=by
 obtain ⟨es,clock,hb,he,hbl,hnd⟩:=h
 have hk:=fun c=>run_checkKey_ev c y w
 have hf:=run_findKeyE y w es.toList L he
 have hp:=placeE_look (y:=y) L 0
 rw [hv] at hp
 obtain ⟨j,hj⟩:=hp
 rw [Nat.zero_add] at hj
 rw [hj] at hf
 have hlt:=(Array.getElem?_eq_some_iff.1 hb).1
 obtain ⟨_,hkey⟩:=updE_mod (y:=y) (v:=v) es.toList L 0 j v he (by rw [hj,Nat.zero_add])
 obtain ⟨e,hej,hek⟩:=Option.map_eq_some_iff.1 hkey
 have hejA:es[j]?=some e:=by rw [←Array.getElem?_toList];exact hej
 have hself:(es.modify j fun e=>{ e with key:=evV y }).toList=es.toList:=by
  rw [Array.toList_modify]
  refine modify_self fun e' he'=>?_
  rw [hej] at he'
  cases he'
  rw [←hek]
 refine ⟨.map (es.modify j fun e=>{ e with key:=evV y }) clock,e.born,?_,es.modify j fun e=>{ e with key:=evV y },clock,j,v,by simp [World.putObj,hlt],?_,?_,?_,hj,?_⟩
 ·simp [Instr.mapEntry,Sem.run_bind,run_underlying hu,getObj,setObj,Sem.run,hb,hk,hf,World.putObj,Instr.keyThatStays,hejA,hek,sameBits_ev]
 ·rw [hself];exact he
 ·rw [hself];exact hbl
 ·rw [hself];exact hnd
 ·rw [hself,hej];rfl
theorem nodup_first {es:List MapEntry} (hn:(es.map (·.born)).Nodup) {j:Nat} (hj:j<es.length):∀ k,(hk:k<j)→es[k].born≠es[j].born:=by
 intro k hk e
 have h1:=(List.nodup_iff_pairwise_ne.1 hn)
 rw [List.pairwise_iff_getElem] at h1
 have h2:=h1 k j (by simpa using Nat.lt_trans hk hj) (by simpa using hj) hk
 simp only [List.getElem_map] at h2
 exact h2 e
theorem EBack.store {y : Int × Int} {s : Nat} (h : EBack w b L y s) (v : Value) :
    ∃ o,(Instr.entryStore mt (.map (some b)) (goInt (s:Nat)) v).run Tryz.prog w=.ok () (w.putObj b o)∧EMap (w.putObj b o) b (updE y v L):=by
 obtain ⟨es,clock,j,u,hb,he,hbl,hnd,hj,hs⟩:=h
 have hlt:=(Array.getElem?_eq_some_iff.1 hb).1
 obtain ⟨e,hej,hes⟩:=Option.map_eq_some_iff.1 hs
 obtain ⟨hm,hkey⟩:=updE_mod (y:=y) (v:=v) es.toList L 0 j u he (by rw [hj,Nat.zero_add])
 rw [hej] at hkey
 have hek:e.key=evV y:=by simpa using hkey
 obtain ⟨hjl,hjg⟩:=List.getElem?_eq_some_iff.1 hej
 have hidx:es.findIdx? (fun e=>(e.born:Int) == ((s:Nat):Int))=some j:=by
  rw [Array.findIdx?_eq_some_iff_getElem]
  have hjs:j<es.size:=by simpa using hjl
  refine ⟨hjs,?_,fun k hk=>?_⟩
  ·have:es[j]=e:=by simpa using hjg
   rw [this,hes];simp
  ·have h1:=nodup_first hnd hjl k hk
   have h2:es[j]=e:=by simpa using hjg
   simp only [Array.getElem_toList] at h1
   rw [h2,hes] at h1
   simp
   omega
 have hcg:es.toList.modify j (fun e=>{ e with val:=v })=es.toList.modify j (fun e=>{ e with key:=evV y,val:=v }):=modify_congr fun e' he'=>by
  rw [hej] at he'
  cases he'
  rw [←hek]
 have hbm:=born_mod (fun e=>{ e with val:=v }) (fun _=>rfl) es.toList j
 refine ⟨.map (es.modify j fun e=>{ e with val:=v }) clock,?_,es.modify j fun e=>{ e with val:=v },clock,by simp [World.putObj,hlt],by rw [Array.toList_modify,hcg];exact hm,?_,?_⟩
 ·simp [Instr.entryStore,Sem.run_bind,getObj,setObj,Sem.run,hb,hidx,World.putObj,asInt,asIntOf,goInt]
 ·intro x hx
  rw [Array.toList_modify] at hx
  have h1:x.born∈es.toList.map (·.born):=by rw [←hbm];exact List.mem_map.2 ⟨x,hx,rfl⟩
  obtain ⟨e,he',h2⟩:=List.mem_map.1 h1
  rw [←h2];exact hbl e he'
 ·rw [Array.toList_modify,hbm];exact hnd
end
theorem lookE_upd {y z:Int × Int} {v:Value}:∀ (L:List ((Int × Int) × Value)),lookE z (updE y v L)=if z=y then some v else lookE z L
 | [] => by unfold updE lookE;rfl
 | x :: L => by
  unfold updE
  by_cases e:y=x.1
  ·rw [if_pos e]
   unfold lookE
   by_cases e2:z=y
   ·rw [if_pos e2,if_pos e2]
   ·rw [if_neg e2,if_neg e2,if_neg (by rw [←e];exact e2)]
  ·rw [if_neg e]
   unfold lookE
   by_cases e2:z=x.1
   ·rw [if_pos e2,if_neg (by rw [e2];exact fun h=>e h.symm),if_pos e2]
   ·rw [if_neg e2,if_neg e2];exact lookE_upd L
theorem keysE_upd {y:Int × Int} {v:Value}:∀ (L:List ((Int × Int) × Value)),(lookE y L).isSome=true→(updE y v L).map Prod.fst=L.map Prod.fst
 | [],h => by cases h
 | x :: L,h => by
  unfold lookE at h
  unfold updE
  by_cases e:y=x.1
  ·rw [if_pos e];simp [e]
  ·rw [if_neg e] at h
   rw [if_neg e,List.map_cons,List.map_cons,keysE_upd L h]
end Go.Proofs.YtkhgpockmaghjaaGreat

namespace Go.Proofs.YtkhgpockmaghjaaGreat
open Go.RowKit Go.Shelf
set_option maxHeartbeats 1000000 in
theorem pexists_any (w : World) (T : TM) (hT : T.At w) (p i : Int) (b : Bool) (hb : b = true ↔ T.toTr.Ex p i) :
    Calls Tryz.prog 104 #[T.val,.agg #[.int .i64 p,.int .i64 i]] w fun e w'=>e=.returned (.bool b)∧Ext w w':=by
 have hn:=hT.P.hn
 have hen:=hT.E.he
 have HT:=Lib.hid hT
 clear hT
 by_cases h1:0≤p
 ·have d1:decide (0≤p)=true:=decide_eq_true h1
  by_cases h2:p<(T.n:Int)
  ·have d2:decide (p<(T.n:Int))=true:=decide_eq_true h2
   have pa:=HT.out.P.pa (by omega)
   have pb:=HT.out.P.pb (by omega)
   have p2:=HT.out.P.p2
   by_cases h3:1≤i
   ·have d3:decide (1≤i)=true:=decide_eq_true h3
    obtain ⟨k,rfl⟩:=Int.eq_ofNat_of_zero_le h1
    have hk:k<T.n:=by omega
    have hek:=hen k hk
    by_cases h4:i≤(T.en k:Int)
    ·have d4:decide (i≤(T.en k:Int))=true:=decide_eq_true h4
     obtain rfl:b=true:=hb.2 ⟨h1,h2,h3,by simpa using h4⟩
     clear hb
     go_enter Tryz.func104,Tryz.ntmps104
     go_upto_region 1 with fail
     refine boxed2 (w:=w) (G:=fun x=>Code.wp _ _ _ _ x) ?_
     intro w1 hx1 hs1 ⟨l0,c0,_,_⟩ ⟨l1,c1,_,_⟩
     have hx11:Ext w1 w1:=Ext.refl _
     clear hs1
     go_quiet (fail)
     go_wp2_with fail
     go_ret
     exact ⟨rfl,hx1.drewN _⟩
    ·have d4:decide (i≤(T.en k:Int))=false:=decide_eq_false h4
     obtain rfl:b=false:=Bool.eq_false_iff.2 fun h=>h4 (by simpa using (hb.1 h).2.2.2)
     clear hb
     go_enter Tryz.func104,Tryz.ntmps104
     go_upto_region 1 with fail
     refine boxed2 (w:=w) (G:=fun x=>Code.wp _ _ _ _ x) ?_
     intro w1 hx1 hs1 ⟨l0,c0,_,_⟩ ⟨l1,c1,_,_⟩
     have hx11:Ext w1 w1:=Ext.refl _
     clear hs1
     go_quiet (fail)
     go_wp2_with fail
     go_ret
     exact ⟨rfl,hx1.drewN _⟩
   ·have d3:decide (1≤i)=false:=decide_eq_false h3
    obtain rfl:b=false:=Bool.eq_false_iff.2 fun h=>h3 (hb.1 h).2.2.1
    clear hb
    go_enter Tryz.func104,Tryz.ntmps104
    go_upto_region 1 with fail
    refine boxed2 (w:=w) (G:=fun x=>Code.wp _ _ _ _ x) ?_
    intro w1 hx1 hs1 ⟨l0,c0,_,_⟩ ⟨l1,c1,_,_⟩
    have hx11:Ext w1 w1:=Ext.refl _
    clear hs1
    go_quiet (fail)
    go_wp2_with fail
    go_ret
    exact ⟨rfl,hx1.drewN _⟩
  ·have d2:decide (p<(T.n:Int))=false:=decide_eq_false h2
   obtain rfl:b=false:=Bool.eq_false_iff.2 fun h=>h2 (hb.1 h).2.1
   clear hb
   go_enter Tryz.func104,Tryz.ntmps104
   go_upto_region 1 with fail
   refine boxed2 (w:=w) (G:=fun x=>Code.wp _ _ _ _ x) ?_
   intro w1 hx1 hs1 ⟨l0,c0,_,_⟩ ⟨l1,c1,_,_⟩
   have hx11:Ext w1 w1:=Ext.refl _
   clear hs1
   go_quiet (fail)
   go_wp2_with fail
   go_ret
   exact ⟨rfl,hx1.drewN _⟩
 ·have d1:decide (0≤p)=false:=decide_eq_false h1
  obtain rfl:b=false:=Bool.eq_false_iff.2 fun h=>h1 (hb.1 h).1
  clear hb
  go_enter Tryz.func104,Tryz.ntmps104
  go_upto_region 1 with fail
  refine boxed2 (w:=w) (G:=fun x=>Code.wp _ _ _ _ x) ?_
  intro w1 hx1 hs1 ⟨l0,c0,_,_⟩ ⟨l1,c1,_,_⟩
  have hx11:Ext w1 w1:=Ext.refl _
  clear hs1
  go_quiet (fail)
  go_wp2_with fail
  go_ret
  exact ⟨rfl,hx1.drewN _⟩
theorem pevent_results (tmps : Array Value) (W : World) (b : Nat) (x0 x1 x2 x3 x4 : Value) (t4 : tmps[4]? = some (.pointer (some ⟨b, 0, none⟩))) (c0 : W.cell? ⟨b, 0, none⟩ = some x0) (c1 : W.cell? ⟨b, 1, none⟩ = some x1) (c2 : W.cell? ⟨b, 2, none⟩ = some x2) (c3 : W.cell? ⟨b, 3, none⟩ = some x3) (c4 : W.cell? ⟨b, 4, none⟩ = some x4) :
    (results Tryz.f52 tmps).run Tryz.prog W=.ok (.agg #[x0,x1,x2,x3,x4]) W:=by
 simp [results,go_sem,t4,c0,c1,c2,c3,c4]
set_option maxHeartbeats 1000000 in
theorem pevent_any (w : World) (T : TM) (hT : T.At w) (p i : Nat) (hp : p < T.n) (hi : i < T.en p) :
    Calls Tryz.prog 52 #[T.val,.agg #[.int .i64 p,.int .i64 (i+1)]] w fun e w'=>e=.returned (T.ev p i)∧Ext w w':=by
 have pa:=hT.P.pa (by omega)
 have pb:=hT.P.pb (by omega)
 have p2:=hT.P.p2
 have e0:=hT.E.e0
 have e1:=hT.E.e1
 have e2:=hT.E.e2
 have e3:=hT.E.e3
 have e4:=hT.E.e4
 have ea:=hT.E.ea p hp (by omega)
 have eb:=hT.E.eb p hp (by omega)
 have hn:=hT.P.hn
 have hen:=hT.E.he p hp
 have hp':(p:Int)<(T.n:Int):=by omega
 have hi':(i:Int)<(T.en p:Int):=by omega
 have hw1:IntKind.i64.wrap (i:Int)=(i:Int):=IntWalk.i64_in _ (by omega)
 clear hT
 go_enter Tryz.func52,Tryz.ntmps52
 go_upto_region 1 with fail
 refine boxed3 (w:=w) (G:=fun x=>Code.wp _ _ _ _ x) ?_
 intro w1 hx1 hs1 ⟨l0,c0,_,_⟩ ⟨l1,c1,_,_⟩ ⟨l2,c2,f2,k2⟩
 have hx11:Ext w1 w1:=Ext.refl _
 clear hs1
 refine wp_region_reads 12 (by kernel_rfl) (by kernel_rfl) ?_
 simp only [List.take_succ_cons,List.take_zero]
 repeat still_step
 refine wpStill_nil ?_
 refine wpAny_ready (rs:=[12]) (by kernel_rfl) (by simp) ?_
 refine AllReady.cons rfl (fun K hK=>?_) AllReady.nil
 go_simp
 refine hK _ _ ?_;clear hK K
 refine wpAny_done (by kernel_rfl) ?_ _
 have g4:=((((Hold.set (show Hold w1 (w.heap.size+1+1) _ from k2) 0 (.int .i64 (T.kind p i))).set 1 (.int .i64 (T.peer p i))).set 2 (.int .i64 (T.msg p i))).set 3 (.int .i64 (T.time p i))).set 4 (.slice (T.aa p i) (T.an p i) (T.ac p i))
 have G4:=Lib.hid g4.drew
 clear g4 k2 c0 c1 c2 l0 l1 l2 f2 e0 e1 e2 e3 e4 p2 pb eb
 go_wp2_with fail
 try simp only [Exit.inBlock,Exit.then]
 refine bodyPost_ret (pevent_results _ _ _ _ _ _ _ _ rfl (G4.out.cell0 0) (G4.out.cell0 1) (G4.out.cell0 2) (G4.out.cell0 3) (G4.out.cell0 4)) rfl ?_
 refine ⟨rfl,?_⟩
 have hb:w.heap.size≤w.heap.size+1+1:=by omega
 exact (Ext.setCell (Ext.setCell (Ext.setCell (Ext.setCell (Ext.setCell hx1 hb _) hb _) hb _) hb _) hb _).drew
set_option maxHeartbeats 1000000 in
theorem receiver_any (w : World) (T : TM) (hT : T.At w) (hV : T.toTr.Valid) (m : Int) :
    Calls Tryz.prog 124 #[T.val,.int .i64 m] w (FindPost T 3 m w):=by
 go_enter Tryz.func124,Tryz.ntmps124
 go_upto_region 1 with fail
 refine boxed2 (w:=w) (G:=fun x=>Code.wp _ _ _ _ x) ?_
 intro w1 hx1 hs1 ⟨l0,c0,_,_⟩ ⟨l1,c1,f1,k1⟩
 have hx11:Ext w1 w1:=Ext.refl _
 have hF:=find_any w1 T (hT.ext hx1) hV 3 m
 have HS:=Lib.hid hs1
 clear hs1 hT hV
 go_wp2_with (go_at_call 126;refine hF.mono ?_;rintro e w2 ⟨hx2,p,q,b,rfl,hc⟩;have hx22:=Ext.refl w2)
 have HC:=Lib.hid hc
 have h2:=((Hold.ext k1 hx2).set 0 (.int .i64 p)).set 1 (.int .i64 q)
 simp only [List.setIfInBounds_toArray,List.set_cons_zero,List.set_cons_succ] at h2
 have g0:=h2.cell0 0
 have g1:=h2.cell0 1
 refine bodyPost_ret (v:=.tuple #[.agg #[.int .i64 p,.int .i64 q],.bool b]) ?_ rfl ⟨?_,p,q,b,rfl,HC.out⟩
 ·simp at g0 g1
  simp [results,Tryz.results124,go_sem,g0,g1]
 ·exact ((hx1.trans hx2).setCell (by dsimp only;omega) _).setCell (by dsimp only;omega) _
end Go.Proofs.YtkhgpockmaghjaaGreat
