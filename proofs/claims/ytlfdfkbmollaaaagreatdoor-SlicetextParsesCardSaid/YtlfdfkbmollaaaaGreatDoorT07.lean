/- Contracts and laws in plain Lean for RApp: group T07. -/
import Derived.Test.YtlfdfkbmollaaaaGreatDoorT01
import Derived.WalkSmall
import Derived.Test.YtlfdfkbmollaaaaGreatDoorT06
import Derived.Laws.Bits64b
import Derived.Deep.LoopGhost
import Derived.Lib.AppendZeros
import Derived.Lib.QuietBelow
import Derived.Test.YtlfdfkbmollaaaaGreatDoorT05
set_option maxRecDepth 100000
namespace Go.Proofs.YtlfdfkbmollaaaaGreatDoor
open Go.RowKit
end Go.Proofs.YtlfdfkbmollaaaaGreatDoor

namespace Go.Proofs.YtlfdfkbmollaaaaGreatDoor
open Go.RowKit
theorem boxed1t' {w : World} {c : Array Value} {t : TypeId} {G : World → Prop}
    (h:∀ w2,Ext w w2→w2.heap.size=w.heap.size+1→Hold w2 w.heap.size c→G w2):G (w.alloc (.cells c t)):=
 h _ (Ext.alloc _ _) (by simp) (Hold.new _ _ _)
structure WdRow (w:World) (g m:Nat) (W:Nat→Nat):Prop where
 c:∀ k,k<m→w.cell? ⟨g,k,none⟩=some (.int .u64 (W k))
 fr:∀ o,w.frozen? ⟨g,o,none⟩=false
 lt:g<w.heap.size
theorem WdRow.made {w:World} {base g n:Nat} (h:w.ownsRow base 132 1 (.slice (some ⟨g,0,none⟩) n n) n (madeCells (Value.int .u64 0).cells (n*1)).toList):WdRow w g n (fun _=>0):=by
 obtain ⟨h1,⟨hv,_⟩ | ⟨g',cap,cur,hv,hg,hh,hc,hm,hs,ht⟩⟩:=h
 ·cases hv
 ·simp only [Value.slice.injEq,Option.some.injEq,Addr.mk.injEq] at hv
  obtain ⟨⟨rfl,_⟩,_,rfl⟩:=hv
  have hb:=Box.of hh
  have hz:(Value.int .u64 0).cells=#[.int .u64 0]:=rfl
  rw [hz,toList_madeCells_one] at ht
  refine ⟨fun k hk=>?_,fun o=>hb.frozen w (Ext.refl _) o,hb.lt w (Ext.refl _)⟩
  rw [hb.cell w (Ext.refl _)]
  have:cur[k]?=(List.replicate (n*1) (Value.int .u64 0))[k]?:=by rw [←ht,List.getElem?_take_of_lt (by omega)];simp
  rw [this,List.getElem?_replicate,if_pos (by omega)];rfl
end Go.Proofs.YtlfdfkbmollaaaaGreatDoor

namespace Go.Proofs.YtlfdfkbmollaaaaGreatDoor
open Go.RowKit Go.Shelf
noncomputable def Tr.bk (T:Tr) (x:NN):List NN:=(if 0<x.2 then [(x.1,x.2 - 1)] else [])++(if T.kind x.1 x.2=3 then [T.sndN x] else [])
def BackPost (w:World) (l:List (Int × Int)) (e:Ending) (w':World):Prop:=∃ v,e=.returned v∧EvOwn w' w.heap.size v l∧Ext w w'
end Go.Proofs.YtlfdfkbmollaaaaGreatDoor

namespace Go.Proofs.YtlfdfkbmollaaaaGreatDoor
inductive Tr.Past (T:Tr) (x:NN):NN→Prop
 | self:Tr.Past T x x
 | step {y z:NN}:Tr.Past T x y→T.Dir z y→Tr.Past T x z
theorem Tr.mem_bk {T:Tr} {y z:NN}:z∈T.bk y↔T.Dir z y:=by
 unfold Tr.bk Tr.Dir
 rw [List.mem_append]
 constructor
 ·rintro (h | h)
  ·split at h
   ·simp at h;subst h;left;exact ⟨rfl,by show y.2=y.2 - 1+1;omega⟩
   ·cases h
  ·split at h
   ·next hk=>simp at h;exact .inr ⟨hk,h⟩
   ·cases h
 ·rintro (⟨h1,h2⟩ | ⟨h1,h2⟩)
  ·left;rw [if_pos (by omega)];simp;exact Prod.ext h1.symm (by show z.2=y.2 - 1;omega)
  ·right;rw [if_pos h1];simp [h2]
theorem Tr.bk_len (T:Tr) (y:NN):(T.bk y).length≤2:=by
 unfold Tr.bk;rw [List.length_append];split <;> split <;> simp
theorem Tr.Past.V {T:Tr} {x y:NN} (hx:T.V x) (h:T.Past x y):T.V y:=by
 induction h with
 | self => exact hx
 | step _ d ih => exact Tr.Dir.V ih d
def updC (c:Nat→Nat) (p v:Nat):Nat→Nat:=fun k=>if k=p then v else c k
theorem tot_add {f g:Nat→Nat} {p d:Nat}:∀ {n:Nat},p<n→(∀ k,k≠p→f k=g k)→f p=g p+d→tot f n=tot g n+d
 | 0,h,_,_ => by omega
 | n+1,h,ho,hp => by
  unfold tot
  by_cases e:p=n
  ·subst e
   rw [tot_congr (f:=f) (g:=g) fun k hk=>ho k (by omega),hp];omega
  ·rw [tot_add (f:=f) (g:=g) (n:=n) (by omega) ho hp,ho n (fun h=>e h.symm)];omega
end Go.Proofs.YtlfdfkbmollaaaaGreatDoor

namespace Go.Proofs.YtlfdfkbmollaaaaGreatDoor
open Go.RowKit Go.Shelf
structure CRow (w:World) (g n:Nat) (c:Nat→Nat):Prop where
 c:∀ k,k<n→w.cell? ⟨g,k,none⟩=some (.int .i64 (c k))
 fr:∀ o,w.frozen? ⟨g,o,none⟩=false
 lt:g<w.heap.size
theorem CRow.block {w w':World} {g n:Nat} {c:Nat→Nat} (h:CRow w g n c) (hs:w.heap.size≤w'.heap.size) (x:w'.heap[g]?=w.heap[g]?):CRow w' g n c:=
 ⟨fun k hk=>(World.cell?_of_block (w:=w) (a:=⟨g,k,none⟩) x).trans (h.c k hk),fun o=>(World.frozen?_of_block (w:=w) (a:=⟨g,o,none⟩) x).trans (h.fr o),Nat.lt_of_lt_of_le h.lt hs⟩
theorem CRow.ext {w w':World} {g n:Nat} {c:Nat→Nat} (h:CRow w g n c) (x:Ext w w'):CRow w' g n c:=h.block x.le (x.block g h.lt)
theorem CRow.made {w:World} {base g n:Nat} (h:w.ownsRow base 3 1 (.slice (some ⟨g,0,none⟩) n n) n (madeCells (Value.int .i64 0).cells (n*1)).toList):CRow w g n (fun _=>0):=by
 obtain ⟨h1,⟨hv,_⟩ | ⟨g',cap,cur,hv,hg,hh,hc,hm,hs,ht⟩⟩:=h
 ·cases hv
 ·simp only [Value.slice.injEq,Option.some.injEq,Addr.mk.injEq] at hv
  obtain ⟨⟨rfl,_⟩,_,rfl⟩:=hv
  have hb:=Box.of hh
  have hz:(Value.int .i64 0).cells=#[.int .i64 0]:=rfl
  rw [hz,toList_madeCells_one] at ht
  refine ⟨fun k hk=>?_,fun o=>hb.frozen w (Ext.refl _) o,hb.lt w (Ext.refl _)⟩
  rw [hb.cell w (Ext.refl _)]
  have:cur[k]?=(List.replicate (n*1) (Value.int .i64 0))[k]?:=by rw [←ht,List.getElem?_take_of_lt (by omega)];simp
  rw [this,List.getElem?_replicate,if_pos (by omega)];rfl
theorem CRow.set {w:World} {g n:Nat} {c:Nat→Nat} (h:CRow w g n c) (q v:Nat) (hq:q<n):CRow (w.setCell ⟨g,q,none⟩ (.int .i64 v)) g n (updC c q v):=by
 refine ⟨fun k hk=>?_,fun o=>?_,by rw [World.size_setCell];exact h.lt⟩
 ·unfold updC
  by_cases e:k=q
  ·subst e
   rw [if_pos rfl];exact World.cell?_setCell_same _ _ _ (h.c k hk)
  ·rw [if_neg e];refine Eq.trans ?_ (h.c k hk);apply World.cell?_setCell_other;intro h9;simp only [Addr.mk.injEq] at h9;exact e h9.2.1.symm
 ·rw [frozen_set];exact h.fr o
theorem evCells_one (l:List (Int × Int)):∀ u∈evCells l,u.oneCell'=true:=by
 intro u hu
 simp only [evCells,List.mem_flatMap] at hu
 obtain ⟨x,_,hx⟩:=hu
 simp at hx
 rcases hx with rfl | rfl <;> rfl
theorem own_slice2 {w:World} {base:Nat} {t:TypeId} {v:Value} {n:Nat} {xs:List Value} (h:w.ownsRow base t 2 v (n+1) xs):∃ a c,v=.slice a (n+1) c:=by
 obtain ⟨_,⟨hv,hn⟩ | ⟨g,cap,cur,hv,_⟩⟩:=h
 ·omega
 ·exact ⟨_,_,hv⟩
theorem drewd {w:World} {n:Nat} {G:World→Prop} (h:∀ w',Ext w w'→G w'):G (w.drewN n):=h _ ((Ext.refl _).drewN _)
structure IntAt (w:World) (a:Option Addr) (b off n:Nat) (l:Nat→Int):Prop where
 hn:n≤140737488355328
 pa:0<n→a=some ⟨b,off,none⟩
 pb:0<n→∀ w',Ext w w'→b<w'.heap.size
 p0:∀ w',Ext w w'→∀ k,k<n→w'.cell? ⟨b,off+k,none⟩=some (.int .i64 (l k))
theorem MM.At.row {M:MM} {w:World} (h:M.At w) {k:Nat} (hk:k<M.n):IntAt w (M.ra k) (M.rb k) (M.ro k) (M.rn k) (M.val k):=
 ⟨h.hr k hk,h.ra k hk,h.rb k hk,fun w' x i hi=>h.r0 w' x k i hk hi⟩
set_option maxHeartbeats 1000000 in
theorem sameInts_any (w : World) (a1 a2 : Option Addr) (b1 b2 o1 o2 n1 n2 c1 c2 : Nat) (l1 l2 : Nat → Int) (h1 : IntAt w a1 b1 o1 n1 l1) (h2 : IntAt w a2 b2 o2 n2 l2) (b : Bool) (hb : b = true ↔ n1 = n2 ∧ ∀ k, k < n1 → l1 k = l2 k) :
    Calls Tryz.prog 38 #[.slice a1 n1 c1,.slice a2 n2 c2] w fun e w'=>e=.returned (.bool b)∧Ext w w':=by
 have hn1:=h1.hn
 have hn2:=h2.hn
 have H1:=Lib.hid h1
 have H2:=Lib.hid h2
 have HB:=Lib.hid hb
 have hww:Ext w w:=Ext.refl _
 clear h1 h2 hb
 by_cases hn:n1=n2
 ·subst hn
  go_enter Tryz.func38,Tryz.ntmps38
  go_wp2_with fail
  go_loopg [5] n1 (fun gg v wr=>∃ k:Nat,k≤n1∧gg=n1 - k∧v=.int .i64 k∧Ext w wr∧∀ j,j<k→l1 j=l2 j)
  case atStart=>exact ⟨0,by omega,rfl,rfl,hww,fun j hj=>by omega⟩
  case round=>
   obtain ⟨k,hk,rfl,rfl,hxr,hall⟩:=hrel
   have HA:=Lib.hid hall
   clear hall
   by_cases hlt:k<n1
   ·have hlt':(k:Int)<(n1:Int):=by omega
    obtain rfl:=H1.out.pa (by omega)
    obtain rfl:=H2.out.pa (by omega)
    have pb1:=H1.out.pb (by omega)
    have pb2:=H2.out.pb (by omega)
    obtain ⟨x,hx⟩:∃ x,x=l1 k:=⟨_,rfl⟩
    obtain ⟨y,hy⟩:∃ y,y=l2 k:=⟨_,rfl⟩
    have p1:∀ w',Ext w w'→w'.cell? ⟨b1,o1+k,none⟩=some (.int .i64 x):=fun w' h=>by rw [hx];exact H1.out.p0 w' h k hlt
    have p2:∀ w',Ext w w'→w'.cell? ⟨b2,o2+k,none⟩=some (.int .i64 y):=fun w' h=>by rw [hy];exact H2.out.p0 w' h k hlt
    have HX:=Lib.hid (And.intro hx hy)
    clear hx hy
    by_cases hxy:x=y
    ·subst hxy
     go_upto_region 6 with fail
     go_quiet (fail)
     go_wp2_with fail
     go_roundg (n1 - (k+1))
     case rel=>exact ⟨k+1,by omega,rfl,by go_num,hxr.drewN _,fun j hj=>by
      by_cases e:j=k
      ·subst e;exact HX.out.1.symm.trans HX.out.2
      ·exact HA.out j (by omega)⟩
     case measure=>omega
    ·have hxb:(x == y)=false:=by simpa using hxy
     obtain rfl:b=false:=Bool.eq_false_iff.2 fun h=>hxy (by rw [HX.out.1,HX.out.2];exact (HB.out.1 h).2 k hlt)
     go_upto_region 6 with fail
     go_quiet (fail)
     go_wp2_with fail
     go_ret
     exact ⟨rfl,hxr.drewN _⟩
   ·obtain rfl:b=true:=HB.out.2 ⟨by first | rfl | trivial,fun j hj=>HA.out j (by omega)⟩
    have hke:k=n1:=by omega
    subst hke
    go_wp2_with fail
    go_ret
    exact ⟨rfl,hxr⟩
 ·obtain rfl:b=false:=Bool.eq_false_iff.2 fun h=>hn (HB.out.1 h).1
  have hnb:((n1:Int) == (n2:Int))=false:=by simp;omega
  go_enter Tryz.func38,Tryz.ntmps38
  go_wp2_with fail
  go_ret
  exact ⟨rfl,hww⟩
def Mx.Alike (M K:Mx):Prop:=M.n=K.n∧∀ k,k<M.n→M.rn k=K.rn k∧∀ i,i<M.rn k→M.val k i=K.val k i
set_option maxHeartbeats 1000000 in
theorem sameLists_any (w : World) (M K : MM) (hM : M.At w) (hK : K.At w) (b : Bool) (hb : b = true ↔ M.toMx.Alike K.toMx) :
    Calls Tryz.prog 39 #[.slice M.a M.n M.cap,.slice K.a K.n K.cap] w fun e w'=>e=.returned (.bool b)∧Ext w w':=by
 have hn1:=hM.hn
 have hn2:=hK.hn
 have H1:=Lib.hid hM
 have H2:=Lib.hid hK
 have HB:=Lib.hid hb
 have hww:Ext w w:=Ext.refl _
 obtain ⟨a1,ha1⟩:∃ a,a=M.a:=⟨_,rfl⟩
 obtain ⟨a2,ha2⟩:∃ a,a=K.a:=⟨_,rfl⟩
 rw [←ha1,←ha2]
 have HA1:=Lib.hid ha1
 have HA2:=Lib.hid ha2
 clear hM hK hb ha1 ha2
 by_cases hn:M.n=K.n
 ·go_enter Tryz.func39,Tryz.ntmps39
  rw [←hn]
  have HN:=Lib.hid hn
  clear hn
  go_wp2_with fail
  go_loopg [5] M.n (fun gg v wr=>∃ k:Nat,k≤M.n∧gg=M.n - k∧v=.int .i64 k∧Ext w wr∧∀ j,j<k→M.rn j=K.rn j∧∀ i,i<M.rn j→M.val j i=K.val j i)
  case atStart=>exact ⟨0,by omega,rfl,rfl,hww,fun j hj=>by omega⟩
  case round=>
   obtain ⟨k,hk,rfl,rfl,hxr,hall⟩:=hrel
   have HA:=Lib.hid hall
   clear hall
   by_cases hlt:k<M.n
   ·have hlt':(k:Int)<(M.n:Int):=by omega
    have hltK:k<K.n:=by have:=HN.out;omega
    obtain rfl:a1=some ⟨M.b,M.off,none⟩:=by rw [HA1.out];exact H1.out.pa (by omega)
    obtain rfl:a2=some ⟨K.b,K.off,none⟩:=by rw [HA2.out];exact H2.out.pa (by omega)
    have pb1:=H1.out.pb (by omega)
    have pb2:=H2.out.pb (by omega)
    have p1:∀ w',Ext w w'→w'.cell? ⟨M.b,M.off+k,none⟩=some (.slice (M.ra k) (M.rn k) (M.rc k)):=fun w' h=>H1.out.p0 w' h k hlt
    have p2:∀ w',Ext w w'→w'.cell? ⟨K.b,K.off+k,none⟩=some (.slice (K.ra k) (K.rn k) (K.rc k)):=fun w' h=>H2.out.p0 w' h k hltK
    obtain ⟨c,hc⟩:∃ c:Bool,c=true↔(M.rn k=K.rn k∧∀ i,i<M.rn k→M.val k i=K.val k i):=by
     by_cases h:M.rn k=K.rn k∧∀ i,i<M.rn k→M.val k i=K.val k i
     ·exact ⟨true,fun _=>h,fun _=>rfl⟩
     ·exact ⟨false,fun h'=>by (cases h'),fun h'=>absurd h' h⟩
    have hSI:=fun W (x:Ext w W)=>sameInts_any W (M.ra k) (K.ra k) (M.rb k) (K.rb k) (M.ro k) (K.ro k) (M.rn k) (K.rn k) (M.rc k) (K.rc k) (M.val k) (K.val k) ((H1.out.ext x).row hlt) ((H2.out.ext x).row hltK) c hc
    have HHs:=Lib.hid hSI
    have HC:=Lib.hid hc
    have hg5:∀ d os,Ext w (Sort.grow (redrawn wr d) os):=fun d os=>hxr.trans (below_regrown wr d os)
    clear hSI hc
    cases c with
    | true =>
     have HC2:=Lib.hid (HC.out.1 rfl)
     clear HC
     go_upto_region 6 with fail
     refine wp_region_quiet_below (by kernel_rfl) (by kernel_rfl) ?_
     repeat (go_big_quiet_step (exact Calls.regrown_of (HHs.out _ (hg5 _ _))))
     refine wpQuiet_nil ?_
     intro _ hw'
     obtain ⟨⟨dq,osq⟩,hw''⟩:=hw'
     subst hw''
     have hx9:=below_regrown wr dq osq
     generalize Sort.grow (redrawn wr dq) osq=w9 at hx9 ⊢
     have hx59:Ext w w9:=hxr.trans hx9
     go_wp2_with fail
     go_roundg (M.n - (k+1))
     case rel=>exact ⟨k+1,by omega,rfl,by go_num,hx59,fun j hj=>by
      by_cases e:j=k
      ·subst e;exact HC2.out
      ·exact HA.out j (by omega)⟩
     case measure=>omega
    | false =>
     obtain rfl:b=false:=Bool.eq_false_iff.2 fun h=>by
      have:=HC.out.2 ((HB.out.1 h).2 k hlt);cases this
     clear HC
     go_upto_region 6 with fail
     refine wp_region_quiet_below (by kernel_rfl) (by kernel_rfl) ?_
     repeat (go_big_quiet_step (exact Calls.regrown_of (HHs.out _ (hg5 _ _))))
     refine wpQuiet_nil ?_
     intro _ hw'
     obtain ⟨⟨dq,osq⟩,hw''⟩:=hw'
     subst hw''
     have hx9:=below_regrown wr dq osq
     generalize Sort.grow (redrawn wr dq) osq=w9 at hx9 ⊢
     have hx59:Ext w w9:=hxr.trans hx9
     go_wp2_with fail
     go_ret
     exact ⟨rfl,hx59⟩
   ·obtain rfl:b=true:=HB.out.2 ⟨HN.out,fun j hj=>HA.out j (by omega)⟩
    have hke:k=M.n:=by omega
    subst hke
    go_wp2_with fail
    go_ret
    exact ⟨rfl,hxr⟩
 ·obtain rfl:b=false:=Bool.eq_false_iff.2 fun h=>hn (HB.out.1 h).1
  have hnb:((M.n:Int) == (K.n:Int))=false:=by simp;omega
  go_enter Tryz.func39,Tryz.ntmps39
  go_wp2_with fail
  go_ret
  exact ⟨rfl,hww⟩
end Go.Proofs.YtlfdfkbmollaaaaGreatDoor

namespace Go.Proofs.YtlfdfkbmollaaaaGreatDoor
end Go.Proofs.YtlfdfkbmollaaaaGreatDoor
