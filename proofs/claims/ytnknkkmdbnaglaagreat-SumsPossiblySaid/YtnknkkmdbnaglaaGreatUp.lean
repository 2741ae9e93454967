/- Contracts and laws in plain Lean for SPos: group Up. -/
import Derived.Test.YtnknkkmdbnaglaaGreatKa
import Derived.Test.YtnknkkmdbnaglaaGreatUo
import Derived.Test.YtnknkkmdbnaglaaGreatUn
import Derived.Test.YtnknkkmdbnaglaaGreatUe
import Derived.Test.YtnknkkmdbnaglaaGreatUm
import Derived.Test.YtnknkkmdbnaglaaGreatKb
namespace Go.Proofs.YtnknkkmdbnaglaaGreat
open Go.RowKit
section
variable {α:Type} (st pr:α→Int)
variable {st pr}
end
end Go.Proofs.YtnknkkmdbnaglaaGreat

namespace Go.Proofs.YtnknkkmdbnaglaaGreat
open Go.RowKit
namespace Pr
end Pr
end Go.Proofs.YtnknkkmdbnaglaaGreat

namespace Go.Proofs.YtnknkkmdbnaglaaGreat
open Go.RowKit
abbrev Trm:=Int × ByteArray × Int
end Go.Proofs.YtnknkkmdbnaglaaGreat

namespace Go.Proofs.YtnknkkmdbnaglaaGreat
open Go.RowKit
def Tr.tix (T:Tr) (x:Trm):Int:=if 0≤x.1∧x.1<(T.n:Int) then T.varI x.1.toNat x.2.1 else -1
def Tr.tedg (T:Tr) (x:Trm):Edg:=(x.1.toNat,(T.varI x.1.toNat x.2.1).toNat,x.2.2)
def Tr.known (T:Tr) (ts:List Trm):Prop:=∀ x∈ts,0≤T.tix x
def coefs (ts:List Trm):Prop:=∀ x∈ts,-1048576≤x.2.2∧x.2.2≤1048576
def Tr.wt (T:Tr) (ts:List Trm) (p i:Nat):Int:=wgt T.st (ts.map T.tedg) p i
def Tr.sumAt (T:Tr) (ts:List Trm) (c:Nat→Nat):Int:=valC T.st (ts.map T.tedg) c
def iabs (x:Int):Int:=if x<0 then - x else x
def Tr.mass (T:Tr) (ts:List Trm) (p i:Nat):Int:=iabs (T.sumAt ts fun _=>0)+isum p (fun q=>isum (T.en q) fun j=>iabs (T.wt ts q j))+isum i (fun j=>iabs (T.wt ts p j))
structure Tr.SumOk (T:Tr) (ts:List Trm):Prop where
 v:T.Valid
 len:ts.length≤64
 known:T.known ts
 coef:coefs ts
 few:tot T.en T.n≤510
 mass:T.mass ts T.n 0≤562949953421312
def Tr.SumFault (T:Tr) (ts:List Trm) (c:Int):Prop:=
 (¬T.Valid∧c=1)∨(T.Valid∧64<ts.length∧c=5)∨(T.Valid∧ts.length≤64∧¬T.known ts∧c=13)∨(T.Valid∧ts.length≤64∧T.known ts∧¬coefs ts∧c=2)∨
 (T.Valid∧ts.length≤64∧T.known ts∧coefs ts∧¬(tot T.en T.n≤510∧T.mass ts T.n 0≤562949953421312)∧c=9)∨(T.SumOk ts∧c=0)
theorem Tr.SumFault.uniq {T:Tr} {ts:List Trm} {c d:Int} (h:T.SumFault ts c) (k:T.SumFault ts d):c=d:=by
 rcases h with ⟨a,rfl⟩ | ⟨v,a,rfl⟩ | ⟨v,l,a,rfl⟩ | ⟨v,l,n,a,rfl⟩ | ⟨v,l,n,e,a,rfl⟩ | ⟨o,rfl⟩ <;> rcases k with ⟨b,rfl⟩ | ⟨v',b,rfl⟩ | ⟨v',l',b,rfl⟩ | ⟨v',l',n',b,rfl⟩ | ⟨v',l',n',e',b,rfl⟩ | ⟨o',rfl⟩
 all_goals first
  | rfl
  | exact absurd v' a
  | exact absurd o'.v a
  | exact absurd v b
  | exact absurd o.v b
  | (exfalso;omega)
  | (have:=o'.len;exfalso;omega)
  | (have:=o.len;exfalso;omega)
  | exact absurd n' a
  | exact absurd o'.known a
  | exact absurd n b
  | exact absurd o.known b
  | exact absurd e' a
  | exact absurd o'.coef a
  | exact absurd e b
  | exact absurd o.coef b
  | exact absurd ⟨o'.few,o'.mass⟩ a
  | exact absurd ⟨o.few,o.mass⟩ b
end Go.Proofs.YtnknkkmdbnaglaaGreat

namespace Go.Proofs.YtnknkkmdbnaglaaGreat
open Go.ChangeShapes Go.WideShapes Go.RowKit Go.Deep
theorem cellsOf_term:Tryz.prog.cellsOf 62=3:=by kernel_rfl
theorem bytesOf_term:Tryz.prog.bytesOf 62=32:=by kernel_rfl
structure TmD where
 s:SlD
 p:Nat→Int
 nm:Nat→ByteArray
 c:Nat→Int
instance:Inhabited TmD:=⟨⟨default,fun _=>0,fun _=>default,fun _=>0⟩⟩
def TmD.at (d:TmD) (i:Nat):Trm:=(d.p i,d.nm i,d.c i)
def TmD.l (d:TmD):List Trm:=(List.range d.s.n).map d.at
theorem TmD.len (d:TmD):d.l.length=d.s.n:=by simp [TmD.l]
theorem TmD.get (d:TmD) {i:Nat} (h:i<d.s.n):d.l[i]?=some (d.at i):=by simp [TmD.l,h]
theorem TmD.mem {d:TmD} {x:Trm}:x∈d.l↔∃ i,i<d.s.n∧x=d.at i:=by
 unfold TmD.l
 rw [List.mem_map]
 constructor
 ·rintro ⟨i,hi,rfl⟩;exact ⟨i,List.mem_range.1 hi,rfl⟩
 ·rintro ⟨i,hi,rfl⟩;exact ⟨i,List.mem_range.2 hi,rfl⟩
structure TmD.At (d:TmD) (w:World):Prop where
 hn:d.s.n≤140737488355328
 ha:0<d.s.n→d.s.a=some ⟨d.s.b,d.s.o,none⟩
 hb:0<d.s.n→d.s.b<w.heap.size
 c0:∀ i,i<d.s.n→w.cell? ⟨d.s.b,d.s.o+i*3,none⟩=some (.int .i64 (d.p i))
 c1:∀ i,i<d.s.n→w.cell? ⟨d.s.b,d.s.o+i*3+1,none⟩=some (.string (d.nm i))
 c2:∀ i,i<d.s.n→w.cell? ⟨d.s.b,d.s.o+i*3+2,none⟩=some (.int .i64 (d.c i))
 o0:∀ i,i<d.s.n→okI (d.p i)
 o1:∀ i,i<d.s.n→(d.nm i).size≤9223372036854775807
 o2:∀ i,i<d.s.n→okI (d.c i)
theorem TmD.At.ext {d:TmD} {w w':World} (h:d.At w) (x:Ext w w'):d.At w':=
 ⟨h.hn,h.ha,fun h0=>Nat.lt_of_lt_of_le (h.hb h0) x.le,fun i hi=>x.cell (h.c0 i hi),fun i hi=>x.cell (h.c1 i hi),fun i hi=>x.cell (h.c2 i hi),h.o0,h.o1,h.o2⟩
section
variable {H:Type} {enc:TypeId × Value→H} {w:World} {base:Nat} {held:Bool} {fuel:Nat} {cs:List Value} {x:DataW H × List MemPlace}
theorem open_terms (h:DataW.trod enc Tryz.prog w base (fun _=>true) held fuel 25 cs=some x) (hs:Small Tryz.prog 25 x.1):∃ d:TmD,cs=[d.s.v]∧d.At w:=by
 obtain ⟨a,b,off,len,cap,h1,h2,h3,h4,h5⟩:=open_structs Tryz.underlying25 Tryz.underlying62 (by kernel_rfl) cellsOf_term (by decide) h hs
 rw [bytesOf_term] at h3
 have f0:=choose_lt (p:=fun i (y:Int)=>w.cell? ⟨b,off+i*3,none⟩=some (.int .i64 y)∧okI y) fun i hi=>by
  obtain ⟨v,n,y,q1,q2,q3⟩:=h5 i hi 0 _ rfl
  obtain ⟨z,e,hz⟩:=open_okI q2
  simp only [List.cons.injEq,and_true] at e;subst e
  exact ⟨z,q1,hz⟩
 have f1:=choose_lt (p:=fun i (y:ByteArray)=>w.cell? ⟨b,off+i*3+1,none⟩=some (.string y)∧y.size≤9223372036854775807) fun i hi=>by
  obtain ⟨v,n,y,q1,q2,q3⟩:=h5 i hi 1 _ rfl
  obtain ⟨z,e,hz⟩:=open_str q2
  simp only [List.cons.injEq,and_true] at e;subst e
  exact ⟨z,q1,hz⟩
 have f2:=choose_lt (p:=fun i (y:Int)=>w.cell? ⟨b,off+i*3+2,none⟩=some (.int .i64 y)∧okI y) fun i hi=>by
  obtain ⟨v,n,y,q1,q2,q3⟩:=h5 i hi 2 _ rfl
  obtain ⟨z,e,hz⟩:=open_okI q2
  simp only [List.cons.injEq,and_true] at e;subst e
  exact ⟨z,q1,hz⟩
 obtain ⟨f0,g0⟩:=f0
 obtain ⟨f1,g1⟩:=f1
 obtain ⟨f2,g2⟩:=f2
 have hS:=SlD.of (w:=w) h2 h3 (by decide) h4
 exact ⟨⟨⟨a,len,cap,b,off⟩,f0,f1,f2⟩,h1,⟨hS.hn,hS.ha,hS.hb,fun i hi=>(g0 i hi).1,fun i hi=>(g1 i hi).1,fun i hi=>(g2 i hi).1,fun i hi=>(g0 i hi).2,fun i hi=>(g1 i hi).2,fun i hi=>(g2 i hi).2⟩⟩
end
section
variable {H:Type} {enc:TypeId × Value→H} {W:World}
set_option maxRecDepth 100000 in
theorem arg_terms {r : Reach} {b0 : Nat} {v : Value} {d : DataW H} {p : List MemPlace} (hv : Value.okWide Tryz.prog W r b0 25 v) (h : DataW.Trod enc Tryz.prog W 0 (fun _ => true) true 25 v d p) (hs : Small Tryz.prog 25 d) :
    ∃ D:TmD,v=.slice D.s.a D.s.n D.s.c∧D.At W:=by
 obtain ⟨a0,len,cap,rfl⟩:=okWide_slice Tryz.underlying25 hv
 obtain ⟨fuel,hf⟩:=h
 obtain ⟨D,e,hD⟩:=open_terms (x:=(d,p)) hf hs
 refine ⟨D,?_,hD⟩
 simpa [Value.cells] using e
end
end Go.Proofs.YtnknkkmdbnaglaaGreat

namespace Go.Proofs.YtnknkkmdbnaglaaGreat
open Go.RowKit Go.Shelf
theorem idx_Term (w : World) (a : Option Addr) (b off n cap : Nat) (c0 c1 c2 : Nat → Value) (g : Nat) (lb : Array Value) (p : Nat → Bool)
    (hn:n≤140737488355328) (ha:0<n→a=some ⟨b,off,none⟩)
    (l0:∀ w',Ext w w'→∀ i,i<n→w'.cell? ⟨b,off+i*3,none⟩=some (c0 i))
    (l1:∀ w',Ext w w'→∀ i,i<n→w'.cell? ⟨b,off+i*3+1,none⟩=some (c1 i))
    (l2:∀ w',Ext w w'→∀ i,i<n→w'.cell? ⟨b,off+i*3+2,none⟩=some (c2 i))
    (eg:Enters Tryz.prog g)
    (hp:∀ i,i<n→∀ w',Ext w w'→Calls Tryz.prog g (#[.agg #[c0 i,c1 i,c2 i]]++lb) w' fun e w''=>e=.returned (.bool (p i))∧Ext w' w'') :
    Calls Tryz.prog 205 #[.slice a n cap,.func (.func g) #[] lb] w fun e w'=>e=.returned (.int .i64 (idxI p n))∧Ext w w':=by
 have HP:=Lib.hid hp
 clear hp
 go_enter Tryz.func205,Tryz.ntmps205
 go_wp2
 go_loopw [8] (fun v wr=>∃ k:Nat,k≤n∧v=.int .i64 k∧Ext w wr∧NoneB p k) (fun v _=>n - (intOf v).toNat)
 case atStart=>exact ⟨0,Nat.zero_le _,rfl,Ext.refl _,NoneB.zero _⟩
 case round=>
  obtain ⟨k,hk,rfl,hx,hN⟩:=hrel
  have HN:=Lib.hid hN
  clear hN
  by_cases hlt:k<n
  ·obtain rfl:=ha (by omega)
   have hc:=HP.out k hlt wr hx
   unfold Enters at eg
   cases hq:p k with
   | true =>
    rw [hq] at hc
    go_wp2_with (go_at_fn g;refine hc.mono ?_;rintro e w' ⟨rfl,hx'⟩)
    go_ret
    exact ⟨ret_int (idxI_hit hlt hq HN.out).symm,hx.trans hx'⟩
   | false =>
    rw [hq] at hc
    go_wp2_with (go_at_fn g;refine hc.mono ?_;rintro e w' ⟨rfl,hx'⟩)
    go_roundw
    case rel=>exact ⟨k+1,by omega,by go_num,hx.trans hx',HN.out.succ hq⟩
    case measure=>simp [intOf];omega
  ·have HN':=Lib.hid (show NoneB p n from fun i hi=>HN.out i (by omega))
   go_wp2
   go_ret
   exact ⟨ret_int (idxI_none HN'.out).symm,hx⟩
theorem has_Term (w : World) (a : Option Addr) (b off n cap : Nat) (c0 c1 c2 : Nat → Value) (g : Nat) (lb : Array Value) (p : Nat → Bool)
    (hn:n≤140737488355328) (ha:0<n→a=some ⟨b,off,none⟩)
    (l0:∀ w',Ext w w'→∀ i,i<n→w'.cell? ⟨b,off+i*3,none⟩=some (c0 i))
    (l1:∀ w',Ext w w'→∀ i,i<n→w'.cell? ⟨b,off+i*3+1,none⟩=some (c1 i))
    (l2:∀ w',Ext w w'→∀ i,i<n→w'.cell? ⟨b,off+i*3+2,none⟩=some (c2 i))
    (eg:Enters Tryz.prog g)
    (hp:∀ i,i<n→∀ w',Ext w w'→Calls Tryz.prog g (#[.agg #[c0 i,c1 i,c2 i]]++lb) w' fun e w''=>e=.returned (.bool (p i))∧Ext w' w'') :
    Calls Tryz.prog 151 #[.slice a n cap,.func (.func g) #[] lb] w fun e w'=>e=.returned (.bool (anyB p n))∧Ext w w':=by
 have hc:=idx_Term w a b off n cap c0 c1 c2 g lb p hn ha l0 l1 l2 eg hp
 have HI:=Lib.hid (idxI_anyB p n)
 clear hp l0 l1 l2 ha eg
 go_enter Tryz.func151,Tryz.ntmps151
 go_wp2_with (go_at_call 205;refine hc.mono ?_;rintro e w' ⟨rfl,hx'⟩)
 go_ret
 exact ⟨ret_bool HI.out,hx'⟩
end Go.Proofs.YtnknkkmdbnaglaaGreat
