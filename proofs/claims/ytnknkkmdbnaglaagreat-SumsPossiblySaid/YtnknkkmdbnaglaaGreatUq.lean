/- Contracts and laws in plain Lean for SPos: group Uq. -/
import Derived.Test.YtnknkkmdbnaglaaGreatUo
import Derived.Test.YtnknkkmdbnaglaaGreatKa
import Derived.Test.YtnknkkmdbnaglaaGreatUd
import Derived.Test.YtnknkkmdbnaglaaGreatUe
namespace Go.Proofs.YtnknkkmdbnaglaaGreat
open Go.RowKit Go.Shelf
/-! edges -/
def edCells (l:List Edg):List Value:=l.flatMap fun t=>[.int .i64 (t.1:Int),.int .i64 (t.2.1:Int),.int .i64 t.2.2]
theorem edCells_length (l:List Edg):(edCells l).length=l.length*3:=by
 induction l with
 | nil => rfl
 | cons x l ih => simp only [edCells,List.flatMap_cons,List.length_append,List.length_cons,List.length_nil] at ih ⊢;omega
theorem edCells_snoc (l:List Edg) (t:Edg):edCells (l++[t])=edCells l++[.int .i64 (t.1:Int),.int .i64 (t.2.1:Int),.int .i64 t.2.2]:=by simp [edCells]
theorem edCells_get:∀ (l:List Edg) (i:Nat),i<l.length→(edCells l)[i*3]?=some (.int .i64 ((edgAt l i).1:Int))∧(edCells l)[i*3+1]?=some (.int .i64 ((edgAt l i).2.1:Int))∧(edCells l)[i*3+2]?=some (.int .i64 (edgAt l i).2.2)
 | [],i,h => by simp at h
 | x :: l,0,_ => ⟨rfl,rfl,rfl⟩
 | x :: l,i+1,h => by
  obtain ⟨h1,h2,h3⟩:=edCells_get l i (by simpa using h)
  have e0:(i+1)*3=i*3+1+1+1:=by omega
  have e1:(i+1)*3+1=i*3+1+1+1+1:=by omega
  have e2:(i+1)*3+2=i*3+2+1+1+1:=by omega
  rw [e2,e1,e0]
  exact ⟨h1,h2,h3⟩
theorem infoEdge:(Tryz.prog.info? 57).map (fun i=>(i.zero,i.size,i.bytes))=some (some (.agg #[.int .i64 0,.int .i64 0,.int .i64 0]),3,24):=by kernel_rfl
structure EdAt (w:World) (a:Option Addr) (b off:Nat) (l:List Edg):Prop where
 hn:l.length≤140737488355328
 pa:0<l.length→a=some ⟨b,off,none⟩
 pb:0<l.length→∀ w',Ext w w'→b<w'.heap.size
 p0:∀ w',Ext w w'→∀ k,k<l.length→w'.cell? ⟨b,off+k*3,none⟩=some (.int .i64 ((edgAt l k).1:Int))
 p1:∀ w',Ext w w'→∀ k,k<l.length→w'.cell? ⟨b,off+k*3+1,none⟩=some (.int .i64 ((edgAt l k).2.1:Int))
 p2:∀ w',Ext w w'→∀ k,k<l.length→w'.cell? ⟨b,off+k*3+2,none⟩=some (.int .i64 (edgAt l k).2.2)
theorem EdAt.ext {w w':World} {a:Option Addr} {b off:Nat} {l:List Edg} (h:EdAt w a b off l) (x:Ext w w'):EdAt w' a b off l:=
 ⟨h.hn,h.pa,fun h0 w2 y=>h.pb h0 w2 (x.trans y),fun w2 y=>h.p0 w2 (x.trans y),fun w2 y=>h.p1 w2 (x.trans y),fun w2 y=>h.p2 w2 (x.trans y)⟩
abbrev EdOwn (w:World) (base:Nat) (v:Value) (l:List Edg):Prop:=Que w base 3 v l.length (edCells l)
theorem EdOwn.at {w : World} {base : Nat} {v : Value} {l : List Edg} (h : EdOwn w base v l) (hn : l.length ≤ 100000) :
    ∃ a g off cap,v=.slice a l.length cap∧EdAt w a g off l∧(0<l.length→base≤g∧g<w.heap.size):=by
 rcases h.val with ⟨ao,hv,h0,ha⟩ | ⟨g,off,cap,hv,h1,h2,h3,h4,h5,h6⟩
 ·exact ⟨ao,0,0,0,by rw [hv,h0],⟨by omega,fun h=>by omega,fun h=>by omega,fun w' _ k hk=>by omega,fun w' _ k hk=>by omega,fun w' _ k hk=>by omega⟩,fun h=>by omega⟩
 ·have c : ∀ w', Ext w w' → ∀ j, j < l.length * 3 → w'.cell? ⟨g, off + j, none⟩ = (edCells l)[j]? := fun w' x j hj => by
    have e:=h5 j hj
    have hlt:j<(edCells l).length:=by rw [edCells_length];exact hj
    rw [List.getElem?_eq_getElem hlt] at e ⊢
    exact x.cell e
  exact ⟨_,g,off,cap,hv,⟨by omega,fun _=>rfl,fun _ w' x=>Nat.lt_of_lt_of_le h2 x.le,fun w' x k hk=>by rw [c w' x _ (by omega)];exact (edCells_get l k hk).1,
   fun w' x k hk=>by rw [Nat.add_assoc,c w' x _ (by omega)];exact (edCells_get l k hk).2.1,fun w' x k hk=>by rw [Nat.add_assoc,c w' x _ (by omega)];exact (edCells_get l k hk).2.2⟩,fun _=>⟨h1,h2⟩⟩
structure NetOk (n:Nat) (L:List Edg):Prop where
 n1:1≤n
 n2:n≤512
 m:L.length≤2000
 src:∀ i,i<L.length→(edgAt L i).1<n
 dst:∀ i,i<L.length→(edgAt L i).2.1<n
 ne:∀ i,i<L.length→(edgAt L i).1≠(edgAt L i).2.1
 lo:∀ i,i<L.length→0≤(edgAt L i).2.2
 hi:∀ i,i<L.length→(edgAt L i).2.2≤1125899906842624
theorem NetOk.ok {n:Nat} {L:List Edg} (h:NetOk n L):(Netw.ofList n L).Ok:=⟨h.src,h.dst,h.lo⟩
/-! a row of n numbers in a block of its own -/
structure IntRow (w:World) (g n:Nat) (f:Nat→Int):Prop where
 c:∀ k,k<n→w.cell? ⟨g,k,none⟩=some (.int .i64 (f k))
 fr:∀ o,w.frozen? ⟨g,o,none⟩=false
 lt:g<w.heap.size
theorem IntRow.block {w w':World} {g n:Nat} {f:Nat→Int} (h:IntRow w g n f) (e:w'.heap[g]?=w.heap[g]?) (hl:w.heap.size≤w'.heap.size):IntRow w' g n f:=
 ⟨fun k hk=>(World.cell?_of_block (w:=w) (a:=⟨g,k,none⟩) e).trans (h.c k hk),fun o=>(World.frozen?_of_block (w:=w) (a:=⟨g,o,none⟩) e).trans (h.fr o),Nat.lt_of_lt_of_le h.lt hl⟩
theorem IntRow.ext {w w':World} {g n:Nat} {f:Nat→Int} (h:IntRow w g n f) (x:Ext w w'):IntRow w' g n f:=h.block (x.block g h.lt) x.le
theorem IntRow.made {w:World} {base g n:Nat} (h:w.ownsRow base 3 1 (.slice (some ⟨g,0,none⟩) n n) n (madeCells (Value.int .i64 0).cells (n*1)).toList):IntRow w g n (fun _=>0):=by
 obtain ⟨h1,⟨hv,_⟩ | ⟨g',cap,cur,hv,hg,hh,hc,hm,hs,ht⟩⟩:=h
 ·cases hv
 ·simp only [Value.slice.injEq,Option.some.injEq,Addr.mk.injEq] at hv
  obtain ⟨⟨rfl,_⟩,_,rfl⟩:=hv
  have hb:=Box.of hh
  have hz:(Value.int .i64 0).cells=#[.int .i64 0]:=rfl
  rw [hz,toList_madeCells_one] at ht
  refine ⟨fun k hk=>?_,fun o=>hb.frozen w (Ext.refl _) o,hb.lt w (Ext.refl _)⟩
  rw [hb.cell w (Ext.refl _)]
  have:cur[k]?=(List.replicate (n*1) (Value.int .i64 0))[k]?:=by rw [←ht,List.getElem?_take_of_lt (by omega)];simp
  rw [this,List.getElem?_replicate,if_pos (by omega)]
theorem IntRow.set {w:World} {g n:Nat} {f:Nat→Int} (h:IntRow w g n f) (q:Nat) (v:Int):IntRow (w.setCell ⟨g,q,none⟩ (.int .i64 v)) g n (fun j=>if j=q then v else f j):=by
 refine ⟨fun k hk=>?_,fun o=>?_,by rw [World.size_setCell];exact h.lt⟩
 ·by_cases e:k=q
  ·subst e
   rw [if_pos rfl];exact World.cell?_setCell_same _ _ _ (h.c k hk)
  ·rw [if_neg e];refine Eq.trans ?_ (h.c k hk);apply World.cell?_setCell_other;intro h9;simp only [Addr.mk.injEq] at h9;exact e h9.2.1.symm
 ·rw [frozen_set];exact h.fr o
theorem IntRow.other {w:World} {g n:Nat} {f:Nat→Int} (h:IntRow w g n f) (p:Addr) (v:Value) (hp:g≠p.block):IntRow (w.setCell p v) g n f:=
 h.block (Below.heap_setCell _ _ _ _ hp) (by rw [World.size_setCell];exact Nat.le_refl _)
/-! rows that grow: row k is the value vs k,of the call's own;the row of rows lies in block lb;no row lies in a block of A -/
structure LvS (base lb n:Nat) (A:Nat→Prop) (rows:Nat→List Int) (vs:Nat→Value) (w:World):Prop where
 cell:∀ k,k<n→w.cell? ⟨lb,k,none⟩=some (vs k)
 froz:∀ k,w.frozen? ⟨lb,k,none⟩=false
 lt:lb<w.heap.size
 own:∀ k,k<n→IntOwn w base (vs k) (rows k)
 apart:∀ j k,j<n→k<n→j≠k→∀ g,(vs j).ownBlock=some g→(vs k).ownBlock≠some g
 off:∀ k,k<n→∀ g,(vs k).ownBlock=some g→g≠lb∧¬A g
 len:∀ k,k<n→(rows k).length≤1000000
theorem LvS.blocks {base lb n:Nat} {A:Nat→Prop} {rows:Nat→List Int} {vs:Nat→Value} {w w':World} (h:LvS base lb n A rows vs w) (hl:w.heap.size≤w'.heap.size) (h0:w'.heap[lb]?=w.heap[lb]?) (hb:∀ k,k<n→∀ g,(vs k).ownBlock=some g→w'.heap[g]?=w.heap[g]?):LvS base lb n A rows vs w':=
 ⟨fun k hk=>(World.cell?_of_block (w:=w) (a:=⟨lb,k,none⟩) h0).trans (h.cell k hk),fun k=>(World.frozen?_of_block (w:=w) (a:=⟨lb,k,none⟩) h0).trans (h.froz k),Nat.lt_of_lt_of_le h.lt hl,fun k hk=>(h.own k hk).same fun g e=>hb k hk g e,h.apart,h.off,h.len⟩
theorem LvS.ext {base lb n:Nat} {A:Nat→Prop} {rows:Nat→List Int} {vs:Nat→Value} {w w':World} (h:LvS base lb n A rows vs w) (x:Ext w w'):LvS base lb n A rows vs w':=
 h.blocks x.le (x.block lb h.lt) fun k hk g e=>x.block g ((h.own k hk).lt g e)
theorem LvS.avoid {base lb n:Nat} {A B:Nat→Prop} {rows:Nat→List Int} {vs:Nat→Value} {w:World} (h:LvS base lb n A rows vs w) (hB:∀ g,g<w.heap.size→B g→A g):LvS base lb n B rows vs w:=
 ⟨h.cell,h.froz,h.lt,h.own,h.apart,fun k hk g e=>⟨(h.off k hk g e).1,fun hb=>(h.off k hk g e).2 (hB g ((h.own k hk).lt g e) hb)⟩,h.len⟩
theorem own_mono {w:World} {base base2:Nat} {e:TypeId} {size:Nat} {v:Value} {n:Nat} {xs:List Value} (h:w.ownsRow base e size v n xs) (hb:base2≤base):w.ownsRow base2 e size v n xs:=by
 obtain ⟨h1,h2 | ⟨g,cap,cur,hv,hg,rest⟩⟩:=h
 ·exact ⟨h1,.inl h2⟩
 ·exact ⟨h1,.inr ⟨g,cap,cur,hv,Nat.le_trans hb hg,rest⟩⟩
theorem LvS.mono {base base2 lb n:Nat} {A:Nat→Prop} {rows:Nat→List Int} {vs:Nat→Value} {w:World} (h:LvS base lb n A rows vs w) (hb:base2≤base):LvS base2 lb n A rows vs w:=
 ⟨h.cell,h.froz,h.lt,fun k hk=>own_mono (h.own k hk) hb,h.apart,h.off,h.len⟩
theorem LvS.made {w:World} {base lb n:Nat} (A:Nat→Prop) (h:w.ownsRow base 28 1 (.slice (some ⟨lb,0,none⟩) n n) n (madeCells (Value.slice none 0 0).cells (n*1)).toList):LvS base lb n A (fun _=>[]) (fun _=>.slice none 0 0) w:=by
 obtain ⟨h1,⟨hv,_⟩ | ⟨g',cap,cur,hv,hg,hh,hc,hm,hs,ht⟩⟩:=h
 ·cases hv
 ·simp only [Value.slice.injEq,Option.some.injEq,Addr.mk.injEq] at hv
  obtain ⟨⟨rfl,_⟩,_,rfl⟩:=hv
  have hb:=Box.of hh
  have hz:(Value.slice none 0 0).cells=#[.slice none 0 0]:=rfl
  rw [hz,toList_madeCells_one] at ht
  refine ⟨fun k hk=>?_,fun k=>hb.frozen w (Ext.refl _) k,hb.lt w (Ext.refl _),fun k _=>IntOwn.nil _ _,fun j k _ _ _ g e=>by simp [Value.ownBlock] at e,fun k _ g e=>by simp [Value.ownBlock] at e,fun k _=>by simp⟩
  rw [hb.cell w (Ext.refl _)]
  have:cur[k]?=(List.replicate (n*1) (Value.slice none 0 0))[k]?:=by rw [←ht,List.getElem?_take_of_lt (by omega)];simp
  rw [this,List.getElem?_replicate,if_pos (by omega)]
theorem LvS.push {base lb n p : Nat} {A : Nat → Prop} {rows : Nat → List Int} {vs : Nat → Value} {w w' : World} {x : Int} {v' : Value} (h : LvS base lb n A rows vs w) (hp : p < n) (hb : base ≤ lb) (hbw : base ≤ w.heap.size) (hl : (rows p).length < 1000000) (hA : ∀ g, A g → g < w.heap.size)
    (hown:w'.ownsRow base 3 1 v' ((rows p).length+1) (intCells (rows p)++[.int .i64 x])) (hg:w.grownBy w' (vs p).ownBlock) (hat:v'.ownBlock=(vs p).ownBlock∨v'.ownBlock=some w.heap.size) :
    LvS base lb n A (updR rows p (rows p++[x])) (updV vs p v') (w'.setCell ⟨lb,p,none⟩ v')∧Below base w (w'.setCell ⟨lb,p,none⟩ v')∧w'.cell? ⟨lb,p,none⟩=some (vs p)∧w'.frozen? ⟨lb,p,none⟩=false∧(∀ g,g<w.heap.size→g≠lb→(vs p).ownBlock≠some g→(w'.setCell ⟨lb,p,none⟩ v').heap[g]?=w.heap[g]?):=by
 have hbl:lb<w.heap.size:=h.lt
 have hbS:w'.heap[lb]?=w.heap[lb]?:=hg.block lb hbl (fun e=>(h.off p hp lb e.symm).1 rfl)
 have hc:∀ k,w'.cell? ⟨lb,k,none⟩=w.cell? ⟨lb,k,none⟩:=fun k=>World.cell?_of_block (w:=w) (a:=⟨lb,k,none⟩) hbS
 have hf:∀ k,w'.frozen? ⟨lb,k,none⟩=w.frozen? ⟨lb,k,none⟩:=fun k=>World.frozen?_of_block (w:=w) (a:=⟨lb,k,none⟩) hbS
 have hcp:=(hc p).trans (h.cell p hp)
 have hset:=fun k=>cell_set w' lb p k v' hcp
 have hv'ne:∀ g,v'.ownBlock=some g→g≠lb∧¬A g:=by
  intro g e
  rcases hat with e' | e'
  ·exact h.off p hp g (e'▸e)
  ·rw [e'] at e;simp at e;subst e
   exact ⟨by omega,fun ha=>by have:=hA _ ha;omega⟩
 have hoth:∀ g,g≠lb→(w'.setCell ⟨lb,p,none⟩ v').heap[g]?=w'.heap[g]?:=fun g hg=>Below.heap_setCell _ _ _ _ hg
 have hnew:IntOwn w' base v' (rows p++[x]):=by
  unfold IntOwn intCells;rw [List.map_append,List.length_append];exact hown
 refine ⟨⟨fun k hk=>?_,fun k=>by rw [frozen_set,hf];exact h.froz k,by rw [World.size_setCell];exact Nat.lt_of_lt_of_le hbl hg.size,fun k hk=>?_,fun j k hj hk hne g e=>?_,fun k hk=>?_,fun k hk=>?_⟩,?_,hcp,(hf p).trans (h.froz p),fun g hg1 hg2 hg3=>by rw [hoth g hg2,hg.block g hg1 (fun e=>hg3 e.symm)]⟩
 ·rw [hset k]
  by_cases e:k=p
  ·simp [updV,e]
  ·simp only [updV,e,if_false];exact (hc k).trans (h.cell k hk)
 ·by_cases e:k=p
  ·subst e;simp only [updV,updR,if_true]
   exact hnew.same fun g e=>hoth g (hv'ne g e).1
  ·simp only [updV,updR,e,if_false]
   refine (h.own k hk).same fun g eg=>?_
   have hlt:=(h.own k hk).lt g eg
   rw [hoth g (h.off k hk g eg).1,hg.block g hlt (fun e'=>h.apart k p hk hp e g eg e'.symm)]
 ·by_cases ej:j=p
  ·have ek:¬k=p:=fun h=>hne (ej.trans h.symm)
   simp only [updV,ej,if_true] at e
   simp only [updV,ek,if_false]
   intro e2
   rcases hat with e' | e'
   ·exact h.apart p k hp hk (fun h=>ek h.symm) g (e'▸e) e2
   ·rw [e'] at e;have:=(h.own k hk).lt g e2;simp at e;omega
  ·simp only [updV,ej,if_false] at e
   by_cases ek:k=p
   ·simp only [updV,ek,if_true]
    intro e2
    rcases hat with e' | e'
    ·exact h.apart j p hj hp ej g e (e'▸e2)
    ·rw [e'] at e2;have:=(h.own j hj).lt g e;simp at e2;omega
   ·simp only [updV,ek,if_false];exact h.apart j k hj hk hne g e
 ·by_cases e:k=p
  ·simp only [updV,e,if_true];exact hv'ne
  ·simp only [updV,e,if_false];exact h.off k hk
 ·by_cases e:k=p
  ·simp only [updR,e,if_true,List.length_append,List.length_cons,List.length_nil];omega
  ·simp only [updR,e,if_false];exact h.len k hk
 ·have b1:Below base w w':=(Below.refl base w).grown hg (by omega) (h.own p hp).block
  exact b1.setCell hb _
/-! the residual network -/
def arcCells (L:List Edg):List Value:=L.flatMap fun e=>[.int .i64 (e.2.1:Int),.int .i64 e.2.2,.int .i64 (e.1:Int),.int .i64 0]
theorem arcCells_snoc (l:List Edg) (t:Edg):arcCells (l++[t])=arcCells l++[.int .i64 (t.2.1:Int),.int .i64 t.2.2,.int .i64 (t.1:Int),.int .i64 0]:=by simp [arcCells]
theorem arcCells_get:∀ (l:List Edg) (i:Nat),i<l.length→(arcCells l)[i*4]?=some (.int .i64 ((edgAt l i).2.1:Int))∧(arcCells l)[i*4+1]?=some (.int .i64 (edgAt l i).2.2)∧(arcCells l)[i*4+2]?=some (.int .i64 ((edgAt l i).1:Int))∧(arcCells l)[i*4+3]?=some (.int .i64 0)
 | [],i,h => by simp at h
 | x :: l,0,_ => ⟨rfl,rfl,rfl,rfl⟩
 | x :: l,i+1,h => by
  obtain ⟨h1,h2,h3,h4⟩:=arcCells_get l i (by simpa using h)
  have e0:(i+1)*4=i*4+1+1+1+1:=by omega
  have e1:(i+1)*4+1=i*4+1+1+1+1+1:=by omega
  have e2:(i+1)*4+2=i*4+2+1+1+1+1:=by omega
  have e3:(i+1)*4+3=i*4+3+1+1+1+1:=by omega
  rw [e3,e2,e1,e0]
  exact ⟨h1,h2,h3,h4⟩
theorem infoArc:(Tryz.prog.info? 150).map (fun i=>(i.zero,i.size,i.bytes))=some (some (.agg #[.int .i64 0,.int .i64 0]),2,16):=by kernel_rfl
structure RsA where
 rb:Nat
 aa:Option Addr
 ag:Nat
 ao:Nat
 ac:Nat
 lb:Nat
 rows:Nat→List Int
 vs:Nat→Value
structure RsA.At (R:RsA) (base:Nat) (N:Netw) (l:Nat→Int) (w:World):Prop where
 hr:Hold w R.rb #[.slice R.aa (2*N.m) R.ac,.slice (some ⟨R.lb,0,none⟩) N.n N.n]
 aa:0<N.m→R.aa=some ⟨R.ag,R.ao,none⟩
 ag:0<N.m→R.ag<w.heap.size
 tc:∀ k,k<2*N.m→w.cell? ⟨R.ag,R.ao+k*2,none⟩=some (.int .i64 (N.to k:Int))
 lf:∀ k,k<2*N.m→w.cell? ⟨R.ag,R.ao+k*2+1,none⟩=some (.int .i64 (l k))
 fr:∀ k,k<2*N.m→w.frozen? ⟨R.ag,R.ao+k*2+1,none⟩=false
 lv:LvS base R.lb N.n (fun g=>g=R.rb∨(0<N.m∧g=R.ag)) R.rows R.vs w
 ne:0<N.m→R.ag≠R.rb∧R.ag≠R.lb
 ne2:R.rb≠R.lb
 b1:base≤R.rb
 b2:0<N.m→base≤R.ag
 b3:base≤R.lb
 rw_:N.Rows R.rows
theorem RsA.At.ext {R:RsA} {base:Nat} {N:Netw} {l:Nat→Int} {w w':World} (h:R.At base N l w) (x:Ext w w'):R.At base N l w':=
 ⟨h.hr.ext x,h.aa,fun h0=>Nat.lt_of_lt_of_le (h.ag h0) x.le,fun k hk=>x.cell (h.tc k hk),fun k hk=>x.cell (h.lf k hk),fun k hk=>(x.frozen (p:=⟨R.ag,R.ao+k*2+1,none⟩) (h.ag (by omega))).trans (h.fr k hk),h.lv.ext x,h.ne,h.ne2,h.b1,h.b2,h.b3,h.rw_⟩
theorem RsA.At.set {R : RsA} {base : Nat} {N : Netw} {l : Nat → Int} {w : World} (h : R.At base N l w) {j : Nat} (hj : j < 2 * N.m) (v : Int) :
    R.At base N (fun k=>if k=j then v else l k) (w.setCell ⟨R.ag,R.ao+j*2+1,none⟩ (.int .i64 v)):=by
 have h0:0<N.m:=by omega
 have hs:=fun o'=>cell_set w R.ag (R.ao+j*2+1) o' (.int .i64 v) (h.lf j hj)
 have hoth:∀ g,g≠R.ag→(w.setCell ⟨R.ag,R.ao+j*2+1,none⟩ (.int .i64 v)).heap[g]?=w.heap[g]?:=fun g hg=>Below.heap_setCell _ _ _ _ hg
 refine ⟨h.hr.other _ _ (fun e=>(h.ne h0).1 e.symm),h.aa,fun _=>by rw [World.size_setCell];exact h.ag h0,fun k hk=>?_,fun k hk=>?_,fun k hk=>by rw [frozen_set];exact h.fr k hk,?_,h.ne,h.ne2,h.b1,h.b2,h.b3,h.rw_⟩
 ·rw [hs,if_neg (by omega)];exact h.tc k hk
 ·rw [hs]
  by_cases e:k=j
  ·subst e;rw [if_pos rfl,if_pos rfl]
  ·rw [if_neg (by omega),if_neg e];exact h.lf k hk
 ·refine h.lv.blocks (by rw [World.size_setCell];exact Nat.le_refl _) (hoth _ fun e=>(h.ne h0).2 e.symm) fun k hk g e=>hoth g fun e2=>(h.lv.off k hk g e).2 (.inr ⟨h0,e2⟩)
/-! while it is laid -/
theorem own_same {w w':World} {base:Nat} {e:TypeId} {size:Nat} {v:Value} {n:Nat} {xs:List Value} (h:w.ownsRow base e size v n xs) (hs:∀ g,v.ownBlock=some g→w'.heap[g]?=w.heap[g]?):w'.ownsRow base e size v n xs:=by
 obtain ⟨h1,⟨hv,hn⟩ | ⟨g,cap,cur,hv,hg,hh,rest⟩⟩:=h
 ·exact ⟨h1,.inl ⟨hv,hn⟩⟩
 ·exact ⟨h1,.inr ⟨g,cap,cur,hv,hg,(hs g (by subst hv;rfl)).trans hh,rest⟩⟩
theorem own_lt {w:World} {base:Nat} {e:TypeId} {size:Nat} {v:Value} {n:Nat} {xs:List Value} (h:w.ownsRow base e size v n xs):∀ g,v.ownBlock=some g→base≤g∧g<w.heap.size:=by
 intro k hk
 obtain ⟨_,⟨hv,_⟩ | ⟨g,cap,cur,hv,hg,hh,_⟩⟩:=h
 ·subst hv;cases hk
 ·subst hv;simp [Value.ownBlock] at hk;subst hk;exact ⟨hg,(Array.getElem?_eq_some_iff.1 hh).1⟩
theorem own_ext {w w':World} {base:Nat} {e:TypeId} {size:Nat} {v:Value} {n:Nat} {xs:List Value} (h:w.ownsRow base e size v n xs) (x:Ext w w'):w'.ownsRow base e size v n xs:=own_same h fun g e=>x.block g (own_lt h g e).2
theorem own_form {w:World} {base:Nat} {e:TypeId} {size:Nat} {v:Value} {n:Nat} {xs:List Value} (h:w.ownsRow base e size v n xs):∃ a c,v=.slice a n c:=by
 obtain ⟨_,⟨hv,hn⟩ | ⟨g,cap,cur,hv,_⟩⟩:=h
 ·exact ⟨none,0,by rw [hv,hn]⟩
 ·exact ⟨_,_,hv⟩
structure OpS (base rb lb n:Nat) (L:List Edg) (k:Nat) (av:Value) (rows:Nat→List Int) (vs:Nat→Value) (w:World):Prop where
 hr:Hold w rb #[av,.slice (some ⟨lb,0,none⟩) n n]
 arc:w.ownsRow base 150 2 av (2*k) (arcCells (L.take k))
 lv:LvS base lb n (fun g=>g=rb∨av.ownBlock=some g) rows vs w
 ne:av.ownBlock≠some lb∧av.ownBlock≠some rb
 ne2:rb≠lb
 b1:base≤rb
 b3:base≤lb
theorem OpS.ext {base rb lb n:Nat} {L:List Edg} {k:Nat} {av:Value} {rows:Nat→List Int} {vs:Nat→Value} {w w':World} (h:OpS base rb lb n L k av rows vs w) (x:Ext w w'):OpS base rb lb n L k av rows vs w':=
 ⟨h.hr.ext x,own_ext h.arc x,h.lv.ext x,h.ne,h.ne2,h.b1,h.b3⟩
theorem OpS.arcs {base rb lb n : Nat} {L : List Edg} {k : Nat} {av v' : Value} {rows : Nat → List Int} {vs : Nat → Value} {w w' : World} {xs : List Value} (h : OpS base rb lb n L k av rows vs w) (hbw : base ≤ w.heap.size) (hxs : xs = arcCells (L.take (k + 1)))
    (hown:w'.ownsRow base 150 2 v' (2*k+2) xs) (hg:w.grownBy w' av.ownBlock) (hat:v'.ownBlock=av.ownBlock∨v'.ownBlock=some w.heap.size) :
    OpS base rb lb n L (k+1) v' rows vs (w'.setCell ⟨rb,0,none⟩ v')∧Below base w (w'.setCell ⟨rb,0,none⟩ v')∧w'.cell? ⟨rb,0,none⟩=some av∧w'.frozen? ⟨rb,0,none⟩=false:=by
 subst hxs
 have hrl:=h.hr.lt
 have hrb:w'.heap[rb]?=w.heap[rb]?:=hg.block rb hrl (fun e=>h.ne.2 e.symm)
 have hlb:w'.heap[lb]?=w.heap[lb]?:=hg.block lb h.lv.lt (fun e=>h.ne.1 e.symm)
 have hr':Hold w' rb #[av,.slice (some ⟨lb,0,none⟩) n n]:=by obtain ⟨t,ht⟩:=h.hr;exact ⟨t,hrb.trans ht⟩
 have hv':∀ g,v'.ownBlock=some g→g<w.heap.size→av.ownBlock=some g:=fun g e hlt=>by
  rcases hat with e' | e'
  ·rw [←e'];exact e
  ·rw [e'] at e;simp at e;omega
 have hne1:v'.ownBlock≠some lb:=fun e=>h.ne.1 (hv' _ e h.lv.lt)
 have hne2:v'.ownBlock≠some rb:=fun e=>h.ne.2 (hv' _ e hrl)
 have hoth:∀ g,g≠rb→(w'.setCell ⟨rb,0,none⟩ v').heap[g]?=w'.heap[g]?:=fun g hg=>Below.heap_setCell _ _ _ _ hg
 refine ⟨⟨hr'.set 0 v',own_same hown fun g e=>hoth g fun e2=>hne2 (e2▸e),?_,⟨hne1,hne2⟩,h.ne2,h.b1,h.b3⟩,?_,hr'.cell0 0,hr'.box.frozen _ (Ext.refl _) 0⟩
 ·refine (h.lv.avoid (B:=fun g=>g=rb∨v'.ownBlock=some g) fun g hlt hB=>?_).blocks (by rw [World.size_setCell];exact hg.size) (by rw [hoth lb (fun e=>h.ne2 e.symm)];exact hlb) fun j hj g e=>?_
  ·rcases hB with hB | hB
   ·exact .inl hB
   ·exact .inr (hv' g hB hlt)
  ·have h1:=(h.lv.off j hj g e).2
   rw [hoth g fun e2=>h1 (.inl e2)]
   exact hg.block g ((h.lv.own j hj).lt g e) fun e2=>h1 (.inr e2.symm)
 ·exact ((Below.refl base w).grown hg hbw fun g e=>(own_lt h.arc g e).1).setCell h.b1 _
theorem OpS.row {base rb lb n : Nat} {L : List Edg} {k : Nat} {av v' : Value} {rows : Nat → List Int} {vs : Nat → Value} {w w' : World} {p : Nat} {x : Int} (h : OpS base rb lb n L k av rows vs w) (hp : p < n) (hbw : base ≤ w.heap.size) (hl : (rows p).length < 1000000)
    (hown:w'.ownsRow base 3 1 v' ((rows p).length+1) (intCells (rows p)++[.int .i64 x])) (hg:w.grownBy w' (vs p).ownBlock) (hat:v'.ownBlock=(vs p).ownBlock∨v'.ownBlock=some w.heap.size) :
    OpS base rb lb n L k av (updR rows p (rows p++[x])) (updV vs p v') (w'.setCell ⟨lb,p,none⟩ v')∧Below base w (w'.setCell ⟨lb,p,none⟩ v')∧w'.cell? ⟨lb,p,none⟩=some (vs p)∧w'.frozen? ⟨lb,p,none⟩=false:=by
 obtain ⟨h1,h2,h3,h4,h5⟩:=h.lv.push hp h.b3 hbw hl (fun g hA=>by
  rcases hA with rfl | hA
  ·exact h.hr.lt
  ·exact (own_lt h.arc g hA).2) hown hg hat
 have hav:∀ g,g=rb∨av.ownBlock=some g→(vs p).ownBlock≠some g:=fun g hA e=>(h.lv.off p hp g e).2 hA
 refine ⟨⟨?_,own_same h.arc fun g e=>h5 g (own_lt h.arc g e).2 (fun e2=>h.ne.1 (e2▸e)) (hav g (.inr e)),h1,h.ne,h.ne2,h.b1,h.b3⟩,h2,h3,h4⟩
 obtain ⟨t,ht⟩:=h.hr
 exact ⟨t,(h5 rb h.hr.lt h.ne2 (hav rb (.inl rfl))).trans ht⟩
structure Netw.RowsTo (N:Netw) (rows:Nat→List Int) (kk:Nat):Prop where
 arc:∀ v i (hi:i<(rows v).length),∃ k:Nat,(rows v)[i]=k∧k<kk∧N.fr k=v
 all:∀ k,k<kk→(k:Int)∈rows (N.fr k)
 len:∀ v,(rows v).length≤kk
theorem Netw.RowsTo.start (N:Netw):N.RowsTo (fun _=>[]) 0:=⟨fun v i hi=>by simp at hi,fun k hk=>by omega,fun v=>by simp⟩
theorem Netw.RowsTo.step {N:Netw} {rows:Nat→List Int} {kk p:Nat} (h:N.RowsTo rows kk) (hp:p=N.fr kk):N.RowsTo (updR rows p (rows p++[(kk:Int)])) (kk+1):=by
 subst hp
 refine ⟨fun v i hi=>?_,fun k hk=>?_,fun v=>?_⟩
 ·by_cases e:v=N.fr kk
  ·subst e
   simp only [updR,if_true] at hi ⊢
   rw [List.length_append,List.length_singleton] at hi
   by_cases hl:i<(rows (N.fr kk)).length
   ·rw [List.getElem_append_left hl]
    obtain ⟨k,e1,e2,e3⟩:=h.arc _ i hl
    exact ⟨k,e1,by omega,e3⟩
   ·obtain rfl:i=(rows (N.fr kk)).length:=by omega
    exact ⟨kk,by simp,by omega,rfl⟩
  ·simp only [updR,e,if_false] at hi ⊢
   obtain ⟨k,e1,e2,e3⟩:=h.arc v i hi
   exact ⟨k,e1,by omega,e3⟩
 ·unfold updR
  by_cases e:N.fr k=N.fr kk
  ·rw [if_pos e]
   by_cases ek:k=kk
   ·subst ek;simp
   ·exact List.mem_append.2 (.inl (e▸h.all k (by omega)))
  ·rw [if_neg e]
   refine h.all k ?_
   have:k≠kk:=fun e2=>e (by rw [e2])
   omega
 ·have h1:=h.len v
  unfold updR
  by_cases e:v=N.fr kk
  ·subst e;rw [if_pos rfl,List.length_append,List.length_singleton];omega
  ·rw [if_neg e];omega
theorem take_succ_at {L:List Edg} {k:Nat} (h:k<L.length):L.take (k+1)=L.take k++[edgAt L k]:=by
 rw [edgAt_eq h,List.take_succ_eq_append_getElem h]
theorem OpS.done {base rb lb n : Nat} {L : List Edg} {av : Value} {rows : Nat → List Int} {vs : Nat → Value} {w : World} (h : OpS base rb lb n L L.length av rows vs w) (hR : (Netw.ofList n L).RowsTo rows (2 * L.length)) :
    ∃ R:RsA,R.rb=rb∧R.At base (Netw.ofList n L) (left0 (Netw.ofList n L)) w:=by
 have hm:(Netw.ofList n L).m=L.length:=rfl
 have hRw:(Netw.ofList n L).Rows rows:=⟨fun v i hi=>hR.arc v i hi,fun k hk=>hR.all k hk⟩
 have harc:=h.arc
 rw [List.take_length] at harc
 obtain ⟨h1,⟨hv,hn⟩ | ⟨g,cap,cur,hv,hg,hh,hc,hmx,hs,ht⟩⟩:=harc
 ·refine ⟨⟨rb,none,0,0,0,lb,rows,vs⟩,rfl,?_⟩
  have hz:(Netw.ofList n L).m=0:=by rw [hm];omega
  refine ⟨?_,fun h0=>by omega,fun h0=>by omega,fun k hk=>by omega,fun k hk=>by omega,fun k hk=>by omega,?_,fun h0=>by omega,h.ne2,h.b1,fun h0=>by omega,h.b3,hRw⟩
  ·have:=h.hr;rw [hv] at this;rw [hz];exact this
  ·refine h.lv.avoid fun g _ hB=>?_
   rcases hB with hB | ⟨hB,_⟩
   ·exact .inl hB
   ·omega
 ·have hb:=Box.of hh
  have hcell:∀ j,j<L.length*4→w.cell? ⟨g,j,none⟩=(arcCells L)[j]?:=fun j hj=>by
   rw [hb.cell w (Ext.refl _),←ht,List.getElem?_take_of_lt (by omega)];simp
  have hto:∀ k,k<2*L.length→w.cell? ⟨g,0+k*2,none⟩=some (.int .i64 ((Netw.ofList n L).to k:Int)):=fun k hk=>by
   rw [Nat.zero_add]
   rcases even_odd k with ⟨i,rfl⟩ | ⟨i,rfl⟩
   ·rw [Netw.to_even,hcell _ (by omega),show 2*i*2=i*4 by omega];exact (arcCells_get L i (by omega)).1
   ·rw [Netw.to_odd,hcell _ (by omega),show (2*i+1)*2=i*4+2 by omega];exact (arcCells_get L i (by omega)).2.2.1
  have hlf:∀ k,k<2*L.length→w.cell? ⟨g,0+k*2+1,none⟩=some (.int .i64 (left0 (Netw.ofList n L) k)):=fun k hk=>by
   rw [Nat.zero_add]
   unfold left0
   rcases even_odd k with ⟨i,rfl⟩ | ⟨i,rfl⟩
   ·rw [if_pos (by omega),hcell _ (by omega),show 2*i*2+1=i*4+1 by omega,show 2*i / 2=i by omega];exact (arcCells_get L i (by omega)).2.1
   ·rw [if_neg (by omega),hcell _ (by omega),show (2*i+1)*2+1=i*4+3 by omega];exact (arcCells_get L i (by omega)).2.2.2
  refine ⟨⟨rb,some ⟨g,0,none⟩,g,0,cap,lb,rows,vs⟩,rfl,?_⟩
  refine ⟨?_,fun _=>rfl,fun _=>hb.lt w (Ext.refl _),hto,hlf,fun k _=>hb.frozen w (Ext.refl _) _,?_,fun _=>⟨fun e=>h.ne.2 (by rw [hv];exact congrArg some e),fun e=>h.ne.1 (by rw [hv];exact congrArg some e)⟩,h.ne2,h.b1,fun _=>hg,h.b3,hRw⟩
  ·have:=h.hr;rw [hv] at this;exact this
  ·refine h.lv.avoid fun k _ hB=>?_
   rcases hB with hB | ⟨_,hB⟩
   ·exact .inl hB
   ·refine .inr ?_
    have e:k=g:=hB
    rw [hv,e];rfl
end Go.Proofs.YtnknkkmdbnaglaaGreat
