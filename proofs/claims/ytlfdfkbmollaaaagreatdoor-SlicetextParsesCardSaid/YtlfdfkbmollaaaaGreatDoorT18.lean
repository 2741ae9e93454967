/- Contracts and laws in plain Lean for RApp: group T18. -/
import Derived.Test.YtlfdfkbmollaaaaGreatDoorT03
import Derived.Test.YtlfdfkbmollaaaaGreatDoorT02
import Derived.Test.YtlfdfkbmollaaaaGreatDoorT06
import Derived.Deep.LoopGhost
import Derived.Test.YtlfdfkbmollaaaaGreatDoorT16
import Derived.Test.YtlfdfkbmollaaaaGreatDoorT15
import Derived.Test.YtlfdfkbmollaaaaGreatDoorT01
import Derived.ProofKit
import Derived.OpenShut
import Derived.SizedLaws
import Derived.Deep.Slices
import Derived.Deep.Fields
import Derived.ChangeSame
import Derived.Carry
import Derived.WalkKit
import Derived.Test.YtlfdfkbmollaaaaGreatDoorT07
namespace Go.Proofs.YtlfdfkbmollaaaaGreatDoor
open Go.RowKit Go.Shelf
end Go.Proofs.YtlfdfkbmollaaaaGreatDoor

namespace Go.Proofs.YtlfdfkbmollaaaaGreatDoor
end Go.Proofs.YtlfdfkbmollaaaaGreatDoor

namespace Go.Proofs.YtlfdfkbmollaaaaGreatDoor
open Go.RowKit Go.Shelf
end Go.Proofs.YtlfdfkbmollaaaaGreatDoor

namespace Go.Proofs.YtlfdfkbmollaaaaGreatDoor
open Go.ChangeShapes Go.WideShapes Go.RowKit Go.Deep
section
variable {H:Type} {enc:TypeId × Value→H} {P:Program} {w:World} {base:Nat} {held:Bool}
theorem all_weights_mem {e:TypeId}:∀ {l:List (DataW H)} {d:DataW H},d∈l→∀ n∈d.weights P e,n∈DataW.weightsAll P e l
 | d' :: r,d,hd,n,hn => by
  simp only [DataW.weightsAll,List.mem_append]
  rcases List.mem_cons.1 hd with rfl | h
  ·exact .inl hn
  ·exact .inr (all_weights_mem h n hn)
def Small (P:Program) (t:TypeId) (d:DataW H):Prop:=∀ n∈d.weights P t,n≤reachBytes
theorem open_any {t e : TypeId} {fuel : Nat} {cs : List Value} {x : DataW H × List MemPlace} (ht : P.underlying t = some (.slice e)) (hc : 0 < P.cellsOf e)
    (h:DataW.trod enc P w base (fun _=>true) held fuel t cs=some x) (hs:Small P t x.1) :
    ∃ (a:Option Addr) (b off len cap:Nat),cs=[.slice a len cap]∧len≤cap∧len*P.bytesOf e≤reachBytes∧(0<len→a=some ⟨b,off,none⟩∧b<w.heap.size)∧
     ∀ i,i<len→∃ (cs':List Value) (n:Nat) (y:DataW H × List MemPlace),cs'.length=P.cellsOf e∧(∀ j,j<P.cellsOf e→w.cell? ⟨b,off+(i*P.cellsOf e+j),none⟩=cs'[j]?)∧DataW.trod enc P w base (fun _=>true) held n e cs'=some y∧Small P e y.1:=by
 rcases open_slice ht h with ⟨rfl,rfl⟩ | ⟨a,len,cap,m,n,D,Pl,rfl,hb,hl,hm,hmm,rfl,hi⟩
 ·exact ⟨none,0,0,0,0,rfl,Nat.le_refl _,by simp,fun h=>absurd h (Nat.lt_irrefl _),fun i h=>absurd h (Nat.not_lt_zero _)⟩
 ·obtain rfl:m=cap:=by simpa using hmm
  have hlm:∀ i,i<len→i<m:=fun i h=>Nat.lt_of_lt_of_le h hl
  have hcell:∀ i,i<len→∀ j,j<P.cellsOf e→∃ v,w.cell? ((a.add (i*P.cellsOf e)).add j)=some v:=fun i hi' j hj=>by
   obtain ⟨cs',h1,_⟩:=hi i (hlm i hi')
   obtain ⟨_,h2,h3⟩:=World.cells?_some h1
   exact ⟨cs'[j]'(by omega),by rw [h3 j hj,List.getElem?_eq_getElem]⟩
  have hsp:0<len→a.spot=none:=fun h0=>by
   obtain ⟨v,hv⟩:=hcell 0 h0 0 hc
   have:=World.cell?_spot hv
   simpa [Addr.add] using this
  obtain ⟨b,off,sp⟩:=a
  refine ⟨some ⟨b,off,sp⟩,b,off,len,m,rfl,hl,?_,fun h0=>?_,fun i hi'=>?_⟩
  ·have:=hs ((((List.range len).map D).length+((List.range (m - len)).map fun j=>D (len+j)).length)*P.bytesOf e) (by simp [DataW.weights,ht])
   simp only [List.length_map,List.length_range] at this
   refine Nat.le_trans (Nat.mul_le_mul_right _ ?_) this
   omega
  ·have h1:sp=none:=hsp h0
   subst h1
   obtain ⟨v,hv⟩:=hcell 0 h0 0 hc
   refine ⟨rfl,?_⟩
   have:=cell_lt hv
   simpa [Addr.add] using this
  ·have h1:sp=none:=hsp (by omega)
   subst h1
   obtain ⟨cs',h1,h2⟩:=hi i (hlm i hi')
   obtain ⟨_,h3,h4⟩:=World.cells?_some h1
   refine ⟨cs',n,(D i,Pl i),h3,fun j hj=>?_,h2,fun x hx=>hs x ?_⟩
   ·have:=h4 j hj
    rw [add_plain,add_plain,Nat.add_assoc] at this
    exact this
   ·simp only [DataW.weights,ht]
    refine List.mem_cons_of_mem _ (List.mem_append.2 (.inl (all_weights_mem (List.mem_map.2 ⟨i,List.mem_range.2 hi',rfl⟩) x hx)))
theorem open_fields {t : TypeId} {fs : Array Field} {fuel : Nat} {cs : List Value} {x : DataW H × List MemPlace} (ht : P.underlying t = some (.struct fs)) (hone : oneCellFields P fs = true) (hC : P.cellsOf t = fs.size)
    (h:DataW.trod enc P w base (fun _=>true) held fuel t cs=some x) (hs:Small P t x.1) (j:Nat) (f:Field) (hj:fs[j]?=some f) :
    ∃ (v:Value) (n:Nat) (y:DataW H × List MemPlace),cs[j]?=some v∧DataW.trod enc P w base (fun _=>true) held n f.type [v]=some y∧Small P f.type y.1:=by
 obtain ⟨ys,n,_,rfl,hlen,hyl,hf⟩:=DataW.trod_struct ht h
 obtain ⟨ho,hk⟩:=hone_of hone j f hj
 have hjl:j<fs.size:=(Array.getElem?_eq_some_iff.1 hj).1
 have h1:=hf j f hj
 rw [ho,hk] at h1
 have hone':(cs.drop j).take 1=[cs[j]'(by omega)]:=by
  rw [List.drop_eq_getElem_cons (by omega)];rfl
 rw [hone',List.getElem?_eq_getElem (show j<ys.length by omega)] at h1
 refine ⟨_,n,_,List.getElem?_eq_getElem (by omega),h1,fun x hx=>hs x ?_⟩
 simp only [DataW.weights,ht]
 refine DataW.weights_mem_each (j:=j) (t:=f.type) (d:=(ys[j]'(by omega)).1) ?_ ?_ x hx
 ·rw [List.getElem?_map,Array.getElem?_toList,hj];rfl
 ·rw [List.getElem?_map,List.getElem?_eq_getElem (show j<ys.length by omega)];rfl
theorem open_structs {t e : TypeId} {fs : Array Field} {fuel : Nat} {cs : List Value} {x : DataW H × List MemPlace} (ht : P.underlying t = some (.slice e)) (he : P.underlying e = some (.struct fs)) (hone : oneCellFields P fs = true) (hC : P.cellsOf e = fs.size) (h0 : 0 < fs.size)
    (h:DataW.trod enc P w base (fun _=>true) held fuel t cs=some x) (hs:Small P t x.1) :
    ∃ (a:Option Addr) (b off len cap:Nat),cs=[.slice a len cap]∧len≤cap∧len*P.bytesOf e≤reachBytes∧(0<len→a=some ⟨b,off,none⟩∧b<w.heap.size)∧
     ∀ i,i<len→∀ j f,fs[j]?=some f→∃ (v:Value) (n:Nat) (y:DataW H × List MemPlace),w.cell? ⟨b,off+i*fs.size+j,none⟩=some v∧DataW.trod enc P w base (fun _=>true) held n f.type [v]=some y∧Small P f.type y.1:=by
 obtain ⟨a,b,off,len,cap,h1,h2,h3,h4,h5⟩:=open_any ht (by omega) h hs
 refine ⟨a,b,off,len,cap,h1,h2,h3,h4,fun i hi j f hj=>?_⟩
 obtain ⟨cs',n,y,h6,h7,h8,h9⟩:=h5 i hi
 obtain ⟨v,n',y',h10,h11,h12⟩:=open_fields he hone hC h8 h9 j f hj
 refine ⟨v,n',y',?_,h11,h12⟩
 have hjl:j<fs.size:=(Array.getElem?_eq_some_iff.1 hj).1
 have:=h7 j (by omega)
 rw [hC] at this
 rw [Nat.add_assoc,this];exact h10
end
end Go.Proofs.YtlfdfkbmollaaaaGreatDoor

namespace Go.Proofs.YtlfdfkbmollaaaaGreatDoor
open Go.ChangeShapes Go.WideShapes Go.RowKit Go.Deep
theorem cellsOf_assign:Tryz.prog.cellsOf 202=2:=by kernel_rfl
theorem cellsOf_event:Tryz.prog.cellsOf 75=5:=by kernel_rfl
theorem cellsOf_var:Tryz.prog.cellsOf 199=2:=by kernel_rfl
theorem cellsOf_proc:Tryz.prog.cellsOf 79=3:=by kernel_rfl
theorem cellsOf_trace:Tryz.prog.cellsOf 24=1:=by kernel_rfl
theorem bytesOf_assign:Tryz.prog.bytesOf 202=16:=by kernel_rfl
theorem bytesOf_event:Tryz.prog.bytesOf 75=56:=by kernel_rfl
theorem bytesOf_var:Tryz.prog.bytesOf 199=24:=by kernel_rfl
theorem bytesOf_proc:Tryz.prog.bytesOf 79=64:=by kernel_rfl
theorem reach_eq:reachBytes=140737488351232:=rfl
structure SlD where
 a:Option Addr
 n:Nat
 c:Nat
 b:Nat
 o:Nat
 deriving Inhabited
abbrev SlD.v (s:SlD):Value:=.slice s.a s.n s.c
structure SlD.At (s:SlD) (w:World):Prop where
 hn:s.n≤140737488355328
 hc:s.n≤s.c
 ha:0<s.n→s.a=some ⟨s.b,s.o,none⟩
 hb:0<s.n→s.b<w.heap.size
structure VarD where
 s:SlD
 nm:Nat→ByteArray
 ini:Nat→Int
instance:Inhabited VarD:=⟨⟨default,fun _=>default,fun _=>0⟩⟩
structure VarD.At (d:VarD) (w:World):Prop where
 s:d.s.At w
 c0:∀ i,i<d.s.n→w.cell? ⟨d.s.b,d.s.o+i*2,none⟩=some (.string (d.nm i))∧(d.nm i).size≤9223372036854775807
 c1:∀ i,i<d.s.n→w.cell? ⟨d.s.b,d.s.o+i*2+1,none⟩=some (.int .i64 (d.ini i))∧okI (d.ini i)
structure AsgD where
 s:SlD
 vr:Nat→Int
 vl:Nat→Int
instance:Inhabited AsgD:=⟨⟨default,fun _=>0,fun _=>0⟩⟩
structure AsgD.At (d:AsgD) (w:World):Prop where
 s:d.s.At w
 c0:∀ i,i<d.s.n→w.cell? ⟨d.s.b,d.s.o+i*2,none⟩=some (.int .i64 (d.vr i))∧okI (d.vr i)
 c1:∀ i,i<d.s.n→w.cell? ⟨d.s.b,d.s.o+i*2+1,none⟩=some (.int .i64 (d.vl i))∧okI (d.vl i)
structure EvD where
 s:SlD
 k:Nat→Int
 p:Nat→Int
 m:Nat→Int
 t:Nat→Int
 g:Nat→AsgD
instance:Inhabited EvD:=⟨⟨default,fun _=>0,fun _=>0,fun _=>0,fun _=>0,fun _=>default⟩⟩
structure EvD.At (d:EvD) (w:World):Prop where
 s:d.s.At w
 c0:∀ i,i<d.s.n→w.cell? ⟨d.s.b,d.s.o+i*5,none⟩=some (.int .i64 (d.k i))∧okI (d.k i)
 c1:∀ i,i<d.s.n→w.cell? ⟨d.s.b,d.s.o+i*5+1,none⟩=some (.int .i64 (d.p i))∧okI (d.p i)
 c2:∀ i,i<d.s.n→w.cell? ⟨d.s.b,d.s.o+i*5+2,none⟩=some (.int .i64 (d.m i))∧okI (d.m i)
 c3:∀ i,i<d.s.n→w.cell? ⟨d.s.b,d.s.o+i*5+3,none⟩=some (.int .i64 (d.t i))∧okI (d.t i)
 c4:∀ i,i<d.s.n→w.cell? ⟨d.s.b,d.s.o+i*5+4,none⟩=some (d.g i).s.v∧(d.g i).At w
section
variable {H:Type} {enc:TypeId × Value→H} {w:World} {base:Nat} {held:Bool} {fuel:Nat} {cs:List Value} {x:DataW H × List MemPlace}
theorem open_okI (h:DataW.trod enc Tryz.prog w base (fun _=>true) held fuel 3 cs=some x):∃ n,cs=[.int .i64 n]∧okI n:=by
 obtain ⟨n,h1,_,h3⟩:=DataW.trod_int Tryz.underlying3 h
 refine ⟨n,h1,?_⟩
 have e1:IntKind.i64.min=-9223372036854775808:=by decide +kernel
 have e2:IntKind.i64.max=9223372036854775807:=by decide +kernel
 simp only [Lit.wf,Bool.and_eq_true,decide_eq_true_eq,e1,e2] at h3
 exact h3
theorem open_str (h:DataW.trod enc Tryz.prog w base (fun _=>true) held fuel 9 cs=some x):∃ n:ByteArray,cs=[.string n]∧n.size≤9223372036854775807:=by
 obtain ⟨n,h1,_,h2⟩:=DataW.trod_string Tryz.underlying9 h
 exact ⟨n,h1,h2⟩
theorem SlD.of {a:Option Addr} {b off len cap k:Nat} (h1:len≤cap) (h2:len*k≤reachBytes) (hk:0<k) (h3:0<len→a=some ⟨b,off,none⟩∧b<w.heap.size):(SlD.mk a len cap b off).At w:=by
 refine ⟨?_,h1,fun h=>(h3 h).1,fun h=>(h3 h).2⟩
 have h4:len*1≤len*k:=Nat.mul_le_mul_left _ hk
 rw [reach_eq] at h2
 show len≤_
 omega
theorem open_vars (h:DataW.trod enc Tryz.prog w base (fun _=>true) held fuel 77 cs=some x) (hs:Small Tryz.prog 77 x.1):∃ d:VarD,cs=[d.s.v]∧d.At w:=by
 obtain ⟨a,b,off,len,cap,h1,h2,h3,h4,h5⟩:=open_structs Tryz.underlying77 Tryz.underlying199 (by kernel_rfl) cellsOf_var (by decide) h hs
 rw [bytesOf_var] at h3
 have f0:=choose_lt (p:=fun i (y:ByteArray)=>w.cell? ⟨b,off+i*2,none⟩=some (.string y)∧y.size≤9223372036854775807) fun i hi=>by
  obtain ⟨v,n,y,q1,q2,q3⟩:=h5 i hi 0 _ rfl
  obtain ⟨z,e,hz⟩:=open_str q2
  simp only [List.cons.injEq,and_true] at e;subst e
  exact ⟨z,q1,hz⟩
 have f1:=choose_lt (p:=fun i (y:Int)=>w.cell? ⟨b,off+i*2+1,none⟩=some (.int .i64 y)∧okI y) fun i hi=>by
  obtain ⟨v,n,y,q1,q2,q3⟩:=h5 i hi 1 _ rfl
  obtain ⟨z,e,hz⟩:=open_okI q2
  simp only [List.cons.injEq,and_true] at e;subst e
  exact ⟨z,q1,hz⟩
 obtain ⟨f0,g0⟩:=f0
 obtain ⟨f1,g1⟩:=f1
 exact ⟨⟨⟨a,len,cap,b,off⟩,f0,f1⟩,h1,⟨SlD.of h2 h3 (by decide) h4,g0,g1⟩⟩
theorem open_asgs (h:DataW.trod enc Tryz.prog w base (fun _=>true) held fuel 73 cs=some x) (hs:Small Tryz.prog 73 x.1):∃ d:AsgD,cs=[d.s.v]∧d.At w:=by
 obtain ⟨a,b,off,len,cap,h1,h2,h3,h4,h5⟩:=open_structs Tryz.underlying73 Tryz.underlying202 (by kernel_rfl) cellsOf_assign (by decide) h hs
 rw [bytesOf_assign] at h3
 have f0:=choose_lt (p:=fun i (y:Int)=>w.cell? ⟨b,off+i*2,none⟩=some (.int .i64 y)∧okI y) fun i hi=>by
  obtain ⟨v,n,y,q1,q2,q3⟩:=h5 i hi 0 _ rfl
  obtain ⟨z,e,hz⟩:=open_okI q2
  simp only [List.cons.injEq,and_true] at e;subst e
  exact ⟨z,q1,hz⟩
 have f1:=choose_lt (p:=fun i (y:Int)=>w.cell? ⟨b,off+i*2+1,none⟩=some (.int .i64 y)∧okI y) fun i hi=>by
  obtain ⟨v,n,y,q1,q2,q3⟩:=h5 i hi 1 _ rfl
  obtain ⟨z,e,hz⟩:=open_okI q2
  simp only [List.cons.injEq,and_true] at e;subst e
  exact ⟨z,q1,hz⟩
 obtain ⟨f0,g0⟩:=f0
 obtain ⟨f1,g1⟩:=f1
 exact ⟨⟨⟨a,len,cap,b,off⟩,f0,f1⟩,h1,⟨SlD.of h2 h3 (by decide) h4,g0,g1⟩⟩
theorem open_evs (h:DataW.trod enc Tryz.prog w base (fun _=>true) held fuel 76 cs=some x) (hs:Small Tryz.prog 76 x.1):∃ d:EvD,cs=[d.s.v]∧d.At w:=by
 obtain ⟨a,b,off,len,cap,h1,h2,h3,h4,h5⟩:=open_structs Tryz.underlying76 Tryz.underlying75 (by kernel_rfl) cellsOf_event (by decide) h hs
 rw [bytesOf_event] at h3
 have f0:=choose_lt (p:=fun i (y:Int)=>w.cell? ⟨b,off+i*5 ,none⟩=some (.int .i64 y)∧okI y) fun i hi=>by
  obtain ⟨v,n,y,q1,q2,q3⟩:=h5 i hi 0 _ rfl
  obtain ⟨z,e,hz⟩:=open_okI q2
  simp only [List.cons.injEq,and_true] at e;subst e
  exact ⟨z,q1,hz⟩
 have f1:=choose_lt (p:=fun i (y:Int)=>w.cell? ⟨b,off+i*5+1,none⟩=some (.int .i64 y)∧okI y) fun i hi=>by
  obtain ⟨v,n,y,q1,q2,q3⟩:=h5 i hi 1 _ rfl
  obtain ⟨z,e,hz⟩:=open_okI q2
  simp only [List.cons.injEq,and_true] at e;subst e
  exact ⟨z,q1,hz⟩
 have f2:=choose_lt (p:=fun i (y:Int)=>w.cell? ⟨b,off+i*5+2,none⟩=some (.int .i64 y)∧okI y) fun i hi=>by
  obtain ⟨v,n,y,q1,q2,q3⟩:=h5 i hi 2 _ rfl
  obtain ⟨z,e,hz⟩:=open_okI q2
  simp only [List.cons.injEq,and_true] at e;subst e
  exact ⟨z,q1,hz⟩
 have f3:=choose_lt (p:=fun i (y:Int)=>w.cell? ⟨b,off+i*5+3,none⟩=some (.int .i64 y)∧okI y) fun i hi=>by
  obtain ⟨v,n,y,q1,q2,q3⟩:=h5 i hi 3 _ rfl
  obtain ⟨z,e,hz⟩:=open_okI q2
  simp only [List.cons.injEq,and_true] at e;subst e
  exact ⟨z,q1,hz⟩
 have f4:=choose_lt (p:=fun i (y:AsgD)=>w.cell? ⟨b,off+i*5+4,none⟩=some y.s.v∧y.At w) fun i hi=>by
  obtain ⟨v,n,y,q1,q2,q3⟩:=h5 i hi 4 _ rfl
  obtain ⟨z,e,hz⟩:=open_asgs q2 q3
  simp only [List.cons.injEq,and_true] at e;subst e
  exact ⟨z,q1,hz⟩
 obtain ⟨f0,g0⟩:=f0
 obtain ⟨f1,g1⟩:=f1
 obtain ⟨f2,g2⟩:=f2
 obtain ⟨f3,g3⟩:=f3
 obtain ⟨f4,g4⟩:=f4
 exact ⟨⟨⟨a,len,cap,b,off⟩,f0,f1,f2,f3,f4⟩,h1,⟨SlD.of h2 h3 (by decide) h4,g0,g1,g2,g3,g4⟩⟩
theorem open_trace (h:DataW.trod enc Tryz.prog w base (fun _=>true) held fuel 24 cs=some x) (hs:Small Tryz.prog 24 x.1):∃ T:TM,cs=[T.sl]∧T.At w:=by
 obtain ⟨vt,n1,y1,h0,h1,hs1⟩:=open_fields Tryz.underlying24 (by kernel_rfl) cellsOf_trace h hs 0 _ rfl
 obtain ⟨_,_,_,_,hlen,_,_⟩:=DataW.trod_struct Tryz.underlying24 h
 rw [cellsOf_trace] at hlen
 obtain ⟨vc,rfl⟩:=List.length_eq_one_iff.1 hlen
 obtain rfl:vc=vt:=by simpa using h0
 obtain ⟨a,b,off,len,cap,e1,h2,h3,h4,h5⟩:=open_structs Tryz.underlying22 Tryz.underlying79 (by kernel_rfl) cellsOf_proc (by decide) h1 hs1
 rw [bytesOf_proc] at h3
 have f0:=choose_lt (p:=fun i (y:ByteArray)=>w.cell? ⟨b,off+i*3,none⟩=some (.string y)∧y.size≤9223372036854775807) fun i hi=>by
  obtain ⟨v,n,y,q1,q2,q3⟩:=h5 i hi 0 _ rfl
  obtain ⟨z,e,hz⟩:=open_str q2
  simp only [List.cons.injEq,and_true] at e;subst e
  exact ⟨z,q1,hz⟩
 have f1:=choose_lt (p:=fun i (y:VarD)=>w.cell? ⟨b,off+i*3+1,none⟩=some y.s.v∧y.At w) fun i hi=>by
  obtain ⟨v,n,y,q1,q2,q3⟩:=h5 i hi 1 _ rfl
  obtain ⟨z,e,hz⟩:=open_vars q2 q3
  simp only [List.cons.injEq,and_true] at e;subst e
  exact ⟨z,q1,hz⟩
 have f2:=choose_lt (p:=fun i (y:EvD)=>w.cell? ⟨b,off+i*3+2,none⟩=some y.s.v∧y.At w) fun i hi=>by
  obtain ⟨v,n,y,q1,q2,q3⟩:=h5 i hi 2 _ rfl
  obtain ⟨z,e,hz⟩:=open_evs q2 q3
  simp only [List.cons.injEq,and_true] at e;subst e
  exact ⟨z,q1,hz⟩
 obtain ⟨f0,g0⟩:=f0
 obtain ⟨f1,g1⟩:=f1
 obtain ⟨f2,g2⟩:=f2
 have hS:=SlD.of h2 h3 (by decide) h4
 refine ⟨{ n:=len,name:=f0,vn:=fun k=>(f1 k).s.n,vname:=fun k=>(f1 k).nm,vinit:=fun k=>(f1 k).ini,en:=fun k=>(f2 k).s.n,kind:=fun k=>(f2 k).k,peer:=fun k=>(f2 k).p,msg:=fun k=>(f2 k).m,time:=fun k=>(f2 k).t,an:=fun k i=>((f2 k).g i).s.n,avar:=fun k i=>((f2 k).g i).vr,aval:=fun k i=>((f2 k).g i).vl,a:=a,b:=b,off:=off,cap:=cap,va:=fun k=>(f1 k).s.a,vb:=fun k=>(f1 k).s.b,vo:=fun k=>(f1 k).s.o,vc:=fun k=>(f1 k).s.c,ea:=fun k=>(f2 k).s.a,eb:=fun k=>(f2 k).s.b,eo:=fun k=>(f2 k).s.o,ec:=fun k=>(f2 k).s.c,aa:=fun k i=>((f2 k).g i).s.a,ab:=fun k i=>((f2 k).g i).s.b,ao:=fun k i=>((f2 k).g i).s.o,ac:=fun k i=>((f2 k).g i).s.c },e1,?_⟩
 constructor
 ·exact ⟨hS.hn,h2,fun h=>(h4 h).1,fun h w' x=>Nat.lt_of_lt_of_le (h4 h).2 x.le,fun w' x k hk=>x.cell (g0 k hk).1,fun w' x k hk=>x.cell (g1 k hk).1,fun w' x k hk=>x.cell (g2 k hk).1⟩
 ·exact ⟨fun k hk=>(g1 k hk).2.s.hn,fun k hk=>(g1 k hk).2.s.hc,fun k hk h=>(g1 k hk).2.s.ha h,fun k hk h w' x=>Nat.lt_of_lt_of_le ((g1 k hk).2.s.hb h) x.le,fun w' x k i hk hi=>x.cell ((g1 k hk).2.c0 i hi).1,fun w' x k i hk hi=>x.cell ((g1 k hk).2.c1 i hi).1⟩
 ·exact ⟨fun k hk=>(g2 k hk).2.s.hn,fun k hk=>(g2 k hk).2.s.hc,fun k hk h=>(g2 k hk).2.s.ha h,fun k hk h w' x=>Nat.lt_of_lt_of_le ((g2 k hk).2.s.hb h) x.le,fun w' x k i hk hi=>x.cell ((g2 k hk).2.c0 i hi).1,fun w' x k i hk hi=>x.cell ((g2 k hk).2.c1 i hi).1,fun w' x k i hk hi=>x.cell ((g2 k hk).2.c2 i hi).1,fun w' x k i hk hi=>x.cell ((g2 k hk).2.c3 i hi).1,fun w' x k i hk hi=>x.cell ((g2 k hk).2.c4 i hi).1⟩
 ·exact ⟨fun k i hk hi=>((g2 k hk).2.c4 i hi).2.s.hn,fun k i hk hi=>((g2 k hk).2.c4 i hi).2.s.hc,fun k i hk hi h=>((g2 k hk).2.c4 i hi).2.s.ha h,fun k i hk hi h w' x=>Nat.lt_of_lt_of_le (((g2 k hk).2.c4 i hi).2.s.hb h) x.le,fun w' x k i j hk hi hj=>x.cell (((g2 k hk).2.c4 i hi).2.c0 j hj).1,fun w' x k i j hk hi hj=>x.cell (((g2 k hk).2.c4 i hi).2.c1 j hj).1⟩
 ·exact ⟨fun k hk => (g0 k hk).2, fun k i hk hi => ((g1 k hk).2.c0 i hi).2, fun k i hk hi => ((g1 k hk).2.c1 i hi).2, fun k i hk hi => ((g2 k hk).2.c0 i hi).2, fun k i hk hi => ((g2 k hk).2.c1 i hi).2, fun k i hk hi => ((g2 k hk).2.c2 i hi).2, fun k i hk hi => ((g2 k hk).2.c3 i hi).2,
    fun k i j hk hi hj=>(((g2 k hk).2.c4 i hi).2.c0 j hj).2,fun k i j hk hi hj=>(((g2 k hk).2.c4 i hi).2.c1 j hj).2⟩
structure IntD where
 s:SlD
 z:Nat→Int
instance:Inhabited IntD:=⟨⟨default,fun _=>0⟩⟩
structure IntD.At (d:IntD) (w:World):Prop where
 s:d.s.At w
 c:∀ i,i<d.s.n→w.cell? ⟨d.s.b,d.s.o+i,none⟩=some (.int .i64 (d.z i))∧okI (d.z i)
end
end Go.Proofs.YtlfdfkbmollaaaaGreatDoor

namespace Go.Proofs.YtlfdfkbmollaaaaGreatDoor
open Go.ChangeShapes Go.WideShapes Go.ChangeAt Go.RowKit
theorem exists_bool (p:Prop):∃ b:Bool,b=true↔p:=by
 classical
 exact ⟨decide p,decide_eq_true_iff⟩
theorem own14:ownKnob Tryz.prog.godebug=none:=by kernel_rfl
theorem laid14:laidOutB Tryz.prog=true:=by kernel_rfl
theorem post_ext1 {H : Type} {enc : TypeId × Value → H} {P : Program} {f : Func} {s : ChangeSpec} {apart fresh handsOn : Bool} {W W' : World} {args : Array Value} {v : Value} {ds gs : List (DataW H)} {before pa pv : List MemPlace}
    (hW:DataW.Whole enc P f.params.toList s.vars apart W args.toList ds gs before)
    (hres:∀ (b:Nat) (sp:Nat→Bool) (hd:Bool),DataW.TrodAll enc P W' b sp hd f.resultTypes.toList (v.resultList f.resultTypes.size) (s.fn H (ds++gs)).results [])
    (hargs:DataW.TrodAll enc P W' 0 (fun b=>decide (b<W.heap.size)) true f.params.toList args.toList (s.fn H (ds++gs)).args pa)
    (hvars:DataW.TrodVars enc P W' (fun b=>decide (b<W.heap.size)) s.vars (s.fn H (ds++gs)).vars pv)
    (hx:Ext W W'):s.post enc P f apart fresh handsOn false W args v W':=
 ⟨ds,gs,before,[],pa,pv,hW,hres _ _ _,hargs,hvars,hx.below.frame _,fun h=>by cases h⟩
section
variable {H:Type} {enc:TypeId × Value→H} {W:World}
theorem small_of {P:Program} {ts:List TypeId} {ds:List (DataW H)} (h:(DataW.weightsEach P ts ds).all (·≤reachBytes)=true) {j:Nat} {t:TypeId} {d:DataW H} (ht:ts[j]?=some t) (hd:ds[j]?=some d):Small P t d:=
 fun n hn=>of_decide_eq_true (List.all_eq_true.1 h _ (DataW.weights_mem_each ht hd n hn))
set_option maxRecDepth 100000 in
theorem arg_trace {r:Reach} {b0:Nat} {v:Value} {d:DataW H} {p:List MemPlace} (hv:Value.okWide Tryz.prog W r b0 24 v) (h:DataW.Trod enc Tryz.prog W 0 (fun _=>true) true 24 v d p) (hs:Small Tryz.prog 24 d):∃ T:TM,v=T.val∧T.At W:=by
 obtain ⟨cs,rfl,_⟩:=okWide_struct Tryz.underlying24 hv
 obtain ⟨fuel,hf⟩:=h
 obtain ⟨T,e,hT⟩:=open_trace (x:=(d,p)) hf hs
 refine ⟨T,?_,hT⟩
 obtain ⟨l⟩:=cs
 have e:l=[T.sl]:=by simpa [Value.cells] using e
 rw [e]
end
end Go.Proofs.YtlfdfkbmollaaaaGreatDoor

namespace Go.Proofs.YtlfdfkbmollaaaaGreatDoor
open Go.RowKit Go.Shelf
section
open Go.ChangeShapes Go.WideShapes Go.Deep
variable {H:Type} {enc:TypeId × Value→H} {W:World}
end
end Go.Proofs.YtlfdfkbmollaaaaGreatDoor

namespace Go.Proofs.YtlfdfkbmollaaaaGreatDoor
open Go.RowKit Go.Shelf
theorem Que.own_lt {w:World} {base size:Nat} {v:Value} {n:Nat} {xs:List Value} (h:Que w base size v n xs) (h0:0<n):∀ b,v.ownBlock=some b→b<w.heap.size:=by
 intro b e
 rcases h.val with ⟨ao,hv,hn,_⟩ | ⟨g,off,cap,hv,_,h2,_⟩
 ·omega
 ·rw [hv] at e;simp [Value.ownBlock] at e;omega
theorem Que.slice {w:World} {base size:Nat} {v:Value} {n:Nat} {xs:List Value} (h:Que w base size v n xs):∃ a c,v=.slice a n c:=by
 rcases h.val with ⟨ao,hv,hn,_⟩ | ⟨g,off,cap,hv,_⟩
 ·exact ⟨ao,0,by rw [hv,hn]⟩
 ·exact ⟨_,_,hv⟩
end Go.Proofs.YtlfdfkbmollaaaaGreatDoor
