/- Contracts and laws in plain Lean for RApp: group P93. -/
import Derived.Test.YtmhapcnlpoilpaaGreatDoorP88
import Derived.Test.YtmhapcnlpoilpaaGreatDoorP91
import Derived.Test.YtmhapcnlpoilpaaGreatDoorP05
import Derived.Test.YtmhapcnlpoilpaaGreatDoorP40
import Derived.Test.YtmhapcnlpoilpaaGreatDoorP89
import Derived.Test.YtmhapcnlpoilpaaGreatDoorP67
set_option maxRecDepth 100000
namespace Go.Proofs.YtmhapcnlpoilpaaGreatDoor
open Go.RowKit Go.Shelf
def ownP (u:Nat→Int) (p m:Nat):List EvE:=(List.range m).map fun (k:Nat)=>((p:Int),u p+1+(k:Int))
theorem ownP_succ (u:Nat→Int) (p m:Nat):ownP u p (m+1)=ownP u p m++[((p:Int),u p+1+(m:Int))]:=by simp [ownP,List.range_succ]
theorem ownP_len (u:Nat→Int) (p m:Nat):(ownP u p m).length=m:=by simp [ownP]
def ownL (u v:Nat→Int):Nat→List EvE
 | 0 => []
 | n+1 => ownL u v n++ownP u n (v n - u n).toNat
theorem ownL_len {u v:Nat→Int} {c:Nat}:∀ {n:Nat},(∀ p,p<n→v p - u p≤c)→(ownL u v n).length≤n*c
 | 0,_ => by simp [ownL]
 | n+1,h => by
  have h1:=ownL_len (n:=n) fun p hp=>h p (by omega)
  have h2:=h n (by omega)
  unfold ownL
  rw [List.length_append,ownP_len,Nat.succ_mul];omega
def OwnPost (u v:Nat→Int) (n:Nat) (w:World) (e:Ending) (w':World):Prop:=Ext w w'∧∃ a c,e=.returned (.slice a (ownL u v n).length c)∧Que w' w.heap.size 2 (.slice a (ownL u v n).length c) (ownL u v n).length (evCells (ownL u v n))
set_option maxHeartbeats 2000000 in
theorem own_any (w : World) (a1 a2 : Option Addr) (g1 o1 g2 o2 n c1 c2 : Nat) (u v : Nat → Int) (h1 : NumAt w n a1 g1 o1 u) (h2 : NumAt w n a2 g2 o2 v) (hn : n ≤ 100) (hb : ∀ p, p < n → 0 ≤ u p ∧ u p ≤ 1000 ∧ v p ≤ 1000) :
    Calls Tryz.prog 158 #[.slice a1 n c1,.slice a2 n c2] w (OwnPost u v n w):=by
 obtain ⟨j0,hj0,hy0,hy1,hy2⟩:=info_parts infoEv
 have HB:=Lib.hid hb
 have HLN:=Lib.hid (show ∀ k,k≤n→(ownL u v k).length≤100000 from fun k hk=>by
  have h1:=ownL_len (u:=u) (v:=v) (c:=1000) (n:=k) fun p hp=>by have:=hb p (by omega);omega
  have h2:k*1000≤100*1000:=Nat.mul_le_mul_right _ (by omega)
  omega)
 have H1:=Lib.hid h1
 have H2:=Lib.hid h2
 have HB0:=Lib.hid (Nat.le_refl w.heap.size)
 have hww:=Ext.refl w
 unfold OwnPost
 clear h1 h2 hb
 go_enter Tryz.func158,Tryz.ntmps158
 go_wp2_with fail
 go_loopg [5,10] n (fun gg v5 v10 wr=>∃ k:Nat,k≤n∧gg=n - k∧v10=.int .i64 k∧Ext w wr∧Que wr w.heap.size 2 v5 (ownL u v k).length (evCells (ownL u v k)))
 case atStart=>exact ⟨0,by omega,rfl,rfl,Ext.refl _,Que.nil _ _ _⟩
 case round=>
  obtain ⟨k,hk,rfl,rfl,hxr,hq⟩:=hrel
  have HQ:=Lib.hid hq
  clear hq
  by_cases hlt:k<n
  ·have hlt':(k:Int)<(n:Int):=by omega
   obtain rfl:=H1.out.pa (by omega)
   obtain rfl:=H2.out.pa (by omega)
   have pb1:∀ w',Ext w w'→g1<w'.heap.size:=fun w' x=>Nat.lt_of_lt_of_le (H1.out.pb (by omega)) x.le
   have pb2:∀ w',Ext w w'→g2<w'.heap.size:=fun w' x=>Nat.lt_of_lt_of_le (H2.out.pb (by omega)) x.le
   obtain ⟨x,hx⟩:∃ x,x=u k:=⟨_,rfl⟩
   obtain ⟨y,hy⟩:∃ y,y=v k:=⟨_,rfl⟩
   have p1:∀ w',Ext w w'→w'.cell? ⟨g1,o1+k,none⟩=some (.int .i64 x):=fun w' h=>by rw [hx];exact h.cell (H1.out.c k hlt)
   have q1:∀ w',Ext w w'→w'.cell? ⟨g2,o2+k,none⟩=some (.int .i64 y):=fun w' h=>by rw [hy];exact h.cell (H2.out.c k hlt)
   have hxb:0≤x∧x≤1000∧y≤1000:=by rw [hx,hy];exact HB.out k hlt
   obtain ⟨hx0,hx9,hy9⟩:=hxb
   have HXY:=Lib.hid (And.intro hx hy)
   have HLK:=Lib.hid (show (ownL u v k).length≤100000 from HLN.out k (by omega))
   clear hx hy
   have hxw1:IntKind.i64.wrap (x+1)=x+1:=IntWalk.i64_in _ (by omega)
   go_wp2_with fail
   go_loopg [5,7] (y - x).toNat (fun gg v5 v7 wi=>∃ m:Nat,m≤(y - x).toNat∧gg=(y - x).toNat - m∧v7=.int .i64 (x+1+(m:Int))∧Ext w wi∧Que wi w.heap.size 2 v5 ((ownL u v k).length+m) (evCells (ownL u v k++ownP u k m)))
   case atStart=>exact ⟨0,by omega,by omega,by first | rfl | go_num | (congr 1;omega),hxr,by simpa [ownP] using HQ.out⟩
   case round=>
    clear HQ
    obtain ⟨m,hm,rfl,rfl,hxi,hqi⟩:=hrel
    obtain ⟨a6,c6,rfl⟩:=hqi.slice
    have HQI:=Lib.hid hqi
    clear hqi
    have hlk:=HLK.out
    obtain ⟨z,hz⟩:∃ z,z=x+1+(m:Int):=⟨_,rfl⟩
    rw [←hz]
    have hz1:z≤2000∧0<z:=by omega
    obtain ⟨hz2,hz3⟩:=hz1
    obtain ⟨N,hN⟩:∃ N,N=(ownL u v k).length:=⟨_,rfl⟩
    have HN:=Lib.hid hN
    rw [←hN] at HQI hlk ⊢
    obtain ⟨M,hM⟩:∃ M,M=N+m:=⟨_,rfl⟩
    rw [←hM] at HQI ⊢
    have hM9:M≤101000:=by omega
    by_cases hli:m<(y - x).toNat
    ·have hzy:z≤y:=by omega
     have HZ:=Lib.hid (And.intro hz hM)
     clear hz hM hN hm
     go_wp2_with (at_builtin;refine wpList_append_que _ rfl _ _ 77 77 rfl (base:=w.heap.size) (e:=47) (size:=2) j0 (.agg #[.int .i64 0,.int .i64 0]) 16 Tryz.underlying77 hj0 hy0 hy1 hy2 rfl rfl (v:=.slice a6 M c6) (n:=M) (xs:=evCells (ownL u v k++ownP u k m)) (by exact HQI.out.ext (Ext.alloc _ _)) (by rw [World.size_alloc];have:=hxi.le;omega) _ 1 [.int .i64 k,.int .i64 z] rfl (by exact Src.ofSlice _ Tryz.underlying77 ⟨wr.heap.size,0,none⟩ 1 1 _ rfl (news_ok wr _ _) (by intro u hu;simp at hu;rcases hu with rfl | rfl <;> rfl)) (by unfold maxLen;omega) (by omega) ?_;rintro v8 w8 hq8 hg8 -;obtain ⟨a8,cp8,rfl⟩:=hq8.slice;have H8:=Lib.hid (And.intro hq8 hg8);clear hq8 hg8)
     go_roundg ((y - x).toNat - (m+1))
     case rel=>
      have hzz:=HZ.out
      refine ⟨m+1,by omega,rfl,by first | (congr 1;omega) | (go_num;omega),(hxi.alloc' _).below.grown H8.out.2 (by rw [World.size_alloc];have:=hxi.le;omega) HQI.out.block,?_⟩
      rw [ownP_succ,←List.append_assoc,evCells_snoc,show (ownL u v k).length+(m+1)=M+1 by have:=HN.out;omega,←HXY.out.1,←hzz.1];exact H8.out.1
     case measure=>omega
    ·have hme:m=(y - x).toNat:=by omega
     have hzy:¬z≤y:=by omega
     have hMN:M=(ownL u v (k+1)).length:=by unfold ownL;rw [List.length_append,ownP_len,←HXY.out.1,←HXY.out.2,←hN,←hme];exact hM
     have HQK:=Lib.hid (show Que wr w.heap.size 2 (.slice a6 M c6) (ownL u v (k+1)).length (evCells (ownL u v (k+1))) from by
      rw [←hMN];unfold ownL;rw [←HXY.out.1,←HXY.out.2,←hme];exact HQI.out)
     clear hz hM hN hm hme hMN hlk
     go_wp2_with fail
     go_roundg (n - (k+1))
     case rel=>exact ⟨k+1,by omega,rfl,by go_num,hxi,HQK.out⟩
     case measure=>omega
  ·obtain rfl:k=n:=by omega
   obtain ⟨a6,c6,hu⟩:=HQ.out.slice
   subst hu
   have HQM:=Lib.hid (HQ.out.mono HB0.out)
   go_wp2_with fail
   go_ret
   exact ⟨hxr,a6,c6,rfl,HQM.out⟩
set_option maxHeartbeats 2000000 in
theorem rown_any (w : World) (T : TM) (a1 a2 : Option Addr) (g1 o1 g2 o2 n c1 c2 : Nat) (u v : Nat → Int) (h1 : NumAt w n a1 g1 o1 u) (h2 : NumAt w n a2 g2 o2 v) (hT : T.n = n) (hn : n ≤ 100) (hb : ∀ p, p < n → 0 ≤ u p ∧ u p ≤ 1000 ∧ v p ≤ 1000) :
    Calls Tryz.prog 127 #[T.val,.slice a1 n c1,.slice a2 n c2] w (OwnPost u v n w):=by
 obtain ⟨j0,hj0,hy0,hy1,hy2⟩:=info_parts infoEv
 have HB:=Lib.hid hb
 have HLN:=Lib.hid (show ∀ k,k≤n→(ownL u v k).length≤100000 from fun k hk=>by
  have h1:=ownL_len (u:=u) (v:=v) (c:=1000) (n:=k) fun p hp=>by have:=hb p (by omega);omega
  have h2:k*1000≤100*1000:=Nat.mul_le_mul_right _ (by omega)
  omega)
 simp only [TM.val]
 rw [hT]
 unfold OwnPost
 clear hb hT
 go_enter Tryz.func127,Tryz.ntmps127
 go_upto_region 1 with fail
 refine boxed1 (w:=w) (G:=fun x=>Code.wp _ _ _ _ x) ?_
 intro w1 hx1 hs1 ⟨l0,c0,_,_⟩
 have hx11:Ext w1 w1:=Ext.refl _
 have H1:=Lib.hid (h1.ext hx1)
 have H2:=Lib.hid (h2.ext hx1)
 have HB0:=Lib.hid hx1.le
 clear h1 h2 hs1
 go_wp2_with fail
 go_loopg [7,8] n (fun gg v7 v8 wr=>∃ k:Nat,k≤n∧gg=n - k∧v8=.int .i64 k∧Ext w1 wr∧Que wr w1.heap.size 2 v7 (ownL u v k).length (evCells (ownL u v k)))
 case atStart=>exact ⟨0,by omega,rfl,rfl,Ext.refl _,Que.nil _ _ _⟩
 case round=>
  obtain ⟨k,hk,rfl,rfl,hxr,hq⟩:=hrel
  have HQ:=Lib.hid hq
  clear hq
  by_cases hlt:k<n
  ·have hlt':(k:Int)<(n:Int):=by omega
   obtain rfl:=H1.out.pa (by omega)
   obtain rfl:=H2.out.pa (by omega)
   have pb1:∀ w',Ext w1 w'→g1<w'.heap.size:=fun w' x=>Nat.lt_of_lt_of_le (H1.out.pb (by omega)) x.le
   have pb2:∀ w',Ext w1 w'→g2<w'.heap.size:=fun w' x=>Nat.lt_of_lt_of_le (H2.out.pb (by omega)) x.le
   obtain ⟨x,hx⟩:∃ x,x=u k:=⟨_,rfl⟩
   obtain ⟨y,hy⟩:∃ y,y=v k:=⟨_,rfl⟩
   have p1:∀ w',Ext w1 w'→w'.cell? ⟨g1,o1+k,none⟩=some (.int .i64 x):=fun w' h=>by rw [hx];exact h.cell (H1.out.c k hlt)
   have q1:∀ w',Ext w1 w'→w'.cell? ⟨g2,o2+k,none⟩=some (.int .i64 y):=fun w' h=>by rw [hy];exact h.cell (H2.out.c k hlt)
   have hxb:0≤x∧x≤1000∧y≤1000:=by rw [hx,hy];exact HB.out k hlt
   obtain ⟨hx0,hx9,hy9⟩:=hxb
   have HXY:=Lib.hid (And.intro hx hy)
   have HLK:=Lib.hid (show (ownL u v k).length≤100000 from HLN.out k (by omega))
   clear hx hy
   have hxw1:IntKind.i64.wrap (x+1)=x+1:=IntWalk.i64_in _ (by omega)
   go_wp2_with fail
   go_loopg [7,9] (y - x).toNat (fun gg v7 v9 wi=>∃ m:Nat,m≤(y - x).toNat∧gg=(y - x).toNat - m∧v9=.int .i64 (x+1+(m:Int))∧Ext w1 wi∧Que wi w1.heap.size 2 v7 ((ownL u v k).length+m) (evCells (ownL u v k++ownP u k m)))
   case atStart=>exact ⟨0,by omega,by omega,by first | rfl | go_num | (congr 1;omega),hxr,by simpa [ownP] using HQ.out⟩
   case round=>
    clear HQ
    obtain ⟨m,hm,rfl,rfl,hxi,hqi⟩:=hrel
    obtain ⟨a6,c6,rfl⟩:=hqi.slice
    have HQI:=Lib.hid hqi
    clear hqi
    have hlk:=HLK.out
    obtain ⟨z,hz⟩:∃ z,z=x+1+(m:Int):=⟨_,rfl⟩
    rw [←hz]
    have hz1:z≤2000∧0<z:=by omega
    obtain ⟨hz2,hz3⟩:=hz1
    obtain ⟨N,hN⟩:∃ N,N=(ownL u v k).length:=⟨_,rfl⟩
    have HN:=Lib.hid hN
    rw [←hN] at HQI hlk ⊢
    obtain ⟨M,hM⟩:∃ M,M=N+m:=⟨_,rfl⟩
    rw [←hM] at HQI ⊢
    have hM9:M≤101000:=by omega
    by_cases hli:m<(y - x).toNat
    ·have hzy:z≤y:=by omega
     have HZ:=Lib.hid (And.intro hz hM)
     clear hz hM hN hm
     go_wp2_with (at_builtin;refine wpList_append_que _ rfl _ _ 77 77 rfl (base:=w1.heap.size) (e:=47) (size:=2) j0 (.agg #[.int .i64 0,.int .i64 0]) 16 Tryz.underlying77 hj0 hy0 hy1 hy2 rfl rfl (v:=.slice a6 M c6) (n:=M) (xs:=evCells (ownL u v k++ownP u k m)) (by exact HQI.out.ext (Ext.alloc _ _)) (by rw [World.size_alloc];have:=hxi.le;omega) _ 1 [.int .i64 k,.int .i64 z] rfl (by exact Src.ofSlice _ Tryz.underlying77 ⟨wr.heap.size,0,none⟩ 1 1 _ rfl (news_ok wr _ _) (by intro u hu;simp at hu;rcases hu with rfl | rfl <;> rfl)) (by unfold maxLen;omega) (by omega) ?_;rintro v8 w8 hq8 hg8 -;obtain ⟨a8,cp8,rfl⟩:=hq8.slice;have H8:=Lib.hid (And.intro hq8 hg8);clear hq8 hg8)
     go_roundg ((y - x).toNat - (m+1))
     case rel=>
      have hzz:=HZ.out
      refine ⟨m+1,by omega,rfl,by first | (congr 1;omega) | (go_num;omega),(hxi.alloc' _).below.grown H8.out.2 (by rw [World.size_alloc];have:=hxi.le;omega) HQI.out.block,?_⟩
      rw [ownP_succ,←List.append_assoc,evCells_snoc,show (ownL u v k).length+(m+1)=M+1 by have:=HN.out;omega,←HXY.out.1,←hzz.1];exact H8.out.1
     case measure=>omega
    ·have hme:m=(y - x).toNat:=by omega
     have hzy:¬z≤y:=by omega
     have hMN:M=(ownL u v (k+1)).length:=by unfold ownL;rw [List.length_append,ownP_len,←HXY.out.1,←HXY.out.2,←hN,←hme];exact hM
     have HQK:=Lib.hid (show Que wr w1.heap.size 2 (.slice a6 M c6) (ownL u v (k+1)).length (evCells (ownL u v (k+1))) from by
      rw [←hMN];unfold ownL;rw [←HXY.out.1,←HXY.out.2,←hme];exact HQI.out)
     clear hz hM hN hm hme hMN hlk
     go_wp2_with fail
     go_roundg (n - (k+1))
     case rel=>exact ⟨k+1,by omega,rfl,by go_num,hxi,HQK.out⟩
     case measure=>omega
  ·obtain rfl:k=n:=by omega
   obtain ⟨a6,c6,hu⟩:=HQ.out.slice
   subst hu
   have HQM:=Lib.hid (HQ.out.mono HB0.out)
   go_wp2_with fail
   go_ret
   exact ⟨(hx1.trans hxr),a6,c6,rfl,HQM.out⟩
end Go.Proofs.YtmhapcnlpoilpaaGreatDoor

namespace Go.Proofs.YtmhapcnlpoilpaaGreatDoor
open Go.RowKit
def lxE (x y:EvE):Prop:=x.1<y.1∨(x.1=y.1∧x.2<y.2)
theorem lxE_trans {x y z:EvE} (h:lxE x y) (k:lxE y z):lxE x z:=by unfold lxE at *;omega
theorem lxE_asymm {x y:EvE} (h:lxE x y):¬lxE y x:=by unfold lxE at *;omega
theorem mem_ownP {u:Nat→Int} {p m:Nat} {x:EvE}:x∈ownP u p m↔∃ k,k<m∧x=((p:Int),u p+1+(k:Int)):=by
 simp only [ownP,List.mem_map,List.mem_range]
 exact ⟨fun ⟨k,h1,h2⟩=>⟨k,h1,h2.symm⟩,fun ⟨k,h1,h2⟩=>⟨k,h1,h2.symm⟩⟩
theorem mem_ownL {u v:Nat→Int} {x:EvE}:∀ {n:Nat},x∈ownL u v n↔∃ p k:Nat,p<n∧k<(v p - u p).toNat∧x=((p:Int),u p+1+(k:Int))
 | 0 => by simp [ownL]
 | n+1 => by
  unfold ownL
  rw [List.mem_append,mem_ownL (n:=n),mem_ownP]
  constructor
  ·rintro (⟨p,k,h1,h2,h3⟩ | ⟨k,h2,h3⟩)
   ·exact ⟨p,k,by omega,h2,h3⟩
   ·exact ⟨n,k,by omega,h2,h3⟩
  ·rintro ⟨p,k,h1,h2,h3⟩
   by_cases e:p=n
   ·subst e;exact .inr ⟨k,h2,h3⟩
   ·exact .inl ⟨p,k,by omega,h2,h3⟩
theorem ownP_sorted {u:Nat→Int} {p:Nat}:∀ {m:Nat},(ownP u p m).Pairwise lxE
 | 0 => by simp [ownP]
 | m+1 => by
  rw [ownP_succ]
  refine List.pairwise_append.2 ⟨ownP_sorted,List.pairwise_singleton _ _,fun x hx y hy=>?_⟩
  obtain ⟨k,h1,rfl⟩:=mem_ownP.1 hx
  obtain rfl:=List.mem_singleton.1 hy
  refine .inr ⟨rfl,?_⟩
  show u p+1+(k:Int)<u p+1+(m:Int)
  omega
theorem ownL_sorted {u v:Nat→Int}:∀ {n:Nat},(ownL u v n).Pairwise lxE
 | 0 => by simp [ownL]
 | n+1 => by
  unfold ownL
  refine List.pairwise_append.2 ⟨ownL_sorted,ownP_sorted,fun x hx y hy=>?_⟩
  obtain ⟨p,k,h1,h2,rfl⟩:=mem_ownL.1 hx
  obtain ⟨l,h3,rfl⟩:=mem_ownP.1 hy
  refine .inl ?_
  show (p:Int)<(n:Int)
  omega
theorem sorted_uniq {α:Type} {R:α→α→Prop} (has:∀ x y,R x y→¬R y x):∀ {l m:List α},l.Pairwise R→m.Pairwise R→(∀ x,x∈l↔x∈m)→l=m
 | [],[],_,_,_ => rfl
 | [],b :: m,_,_,h => absurd ((h b).2 (List.mem_cons_self ..)) (by simp)
 | a :: l,[],_,_,h => absurd ((h a).1 (List.mem_cons_self ..)) (by simp)
 | a :: l,b :: m,h1,h2,h => by
  obtain ⟨a1,a2⟩:=List.pairwise_cons.1 h1
  obtain ⟨b1,b2⟩:=List.pairwise_cons.1 h2
  have hab:a=b:=by
   rcases List.mem_cons.1 ((h a).1 (List.mem_cons_self ..)) with e | e
   ·exact e
   ·rcases List.mem_cons.1 ((h b).2 (List.mem_cons_self ..)) with e2 | e2
    ·exact e2.symm
    ·exact absurd (b1 a e) (has _ _ (a1 b e2))
  subst hab
  refine congrArg (a :: ·) (sorted_uniq has a2 b2 fun x=>⟨fun hx=>?_,fun hx=>?_⟩)
  ·rcases List.mem_cons.1 ((h x).1 (List.mem_cons_of_mem _ hx)) with e | e
   ·subst e;exact absurd (a1 x hx) (fun h=>has _ _ h h)
   ·exact e
  ·rcases List.mem_cons.1 ((h x).2 (List.mem_cons_of_mem _ hx)) with e | e
   ·subst e;exact absurd (b1 x hx) (fun h=>has _ _ h h)
   ·exact e
def orI (x y:Int):Int:=if (x != 0)=true then x else y
noncomputable def cfE (n:Nat) (E:EvE→List Nat) (x y:EvE):Int:=orI (Lib.compareInt (tot (fn (E x)) n:Nat) (tot (fn (E y)) n:Nat)) (cmpN n (fn (E x)) (fn (E y)))
def LE (n:Nat) (E:EvE→List Nat) (x y:EvE):Prop:=befP n (fn (E x)) (fn (E y))∨(E x=E y∧lxE x y)
section
variable {n:Nat} {E:EvE→List Nat}
theorem cfE_neg {x y:EvE}:cfE n E x y<0↔befP n (fn (E x)) (fn (E y)):=by
 unfold cfE orI Lib.compareInt befP
 rcases Nat.lt_trichotomy (tot (fn (E x)) n) (tot (fn (E y)) n) with h | h | h
 ·rw [if_pos (show ((tot (fn (E x)) n:Nat):Int)<(tot (fn (E y)) n:Nat) by omega),if_pos (by decide)]
  exact ⟨fun _=>.inl h,fun _=>by decide⟩
 ·rw [if_neg (show ¬((tot (fn (E x)) n:Nat):Int)<(tot (fn (E y)) n:Nat) by omega),if_neg (show ¬((tot (fn (E x)) n:Nat):Int) > (tot (fn (E y)) n:Nat) by omega),if_neg (by decide),cmpN_neg]
  exact ⟨fun k=>.inr ⟨h,k⟩,fun k=>k.elim (fun k=>absurd k (by omega)) And.right⟩
 ·rw [if_neg (show ¬((tot (fn (E x)) n:Nat):Int)<(tot (fn (E y)) n:Nat) by omega),if_pos (show ((tot (fn (E x)) n:Nat):Int) > (tot (fn (E y)) n:Nat) by omega),if_pos (by decide)]
  exact ⟨fun k=>absurd k (by decide),fun k=>by rcases k with k | k <;> omega⟩
theorem cfE_same {x y:EvE} (h:E x=E y):cfE n E x y=0:=by
 unfold cfE
 rw [h]
 unfold orI Lib.compareInt
 rw [if_neg (Int.lt_irrefl _),if_neg (Int.lt_irrefl _),if_neg (by decide)]
 exact cmpN_eq fun _ _=>rfl
theorem befP_len {l m:List Nat} (hl:l.length=n) (hm:m.length=n):l=m∨befP n (fn l) (fn m)∨befP n (fn m) (fn l):=by
 by_cases e:∀ q,q<n→fn l q=fn m q
 ·exact .inl (fn_ext (by omega) fun p hp=>e p (by omega))
 ·exact .inr (befP_total e)
theorem cmpN_zero {u v:Nat→Nat} (h:cmpN n u v=0):¬lexP n u v∧¬lexP n v u:=by
 refine ⟨fun k=>?_,fun k=>?_⟩
 ·rw [cmpN_lt k] at h;exact absurd h (by decide)
 ·rw [cmpN_gt k] at h;exact absurd h (by decide)
theorem cfE_zero {x y:EvE} (hx:(E x).length=n) (hy:(E y).length=n):cfE n E x y=0↔E x=E y:=by
 refine ⟨fun h=>?_,cfE_same⟩
 have h1:¬cfE n E x y<0:=by omega
 rw [cfE_neg] at h1
 rcases befP_len hx hy with e | e | e
 ·exact e
 ·exact absurd e h1
 ·exfalso
  unfold cfE orI Lib.compareInt at h
  rcases e with e | ⟨e,e2⟩
  ·rw [if_neg (show ¬((tot (fn (E x)) n:Nat):Int)<(tot (fn (E y)) n:Nat) by omega),if_pos (show ((tot (fn (E x)) n:Nat):Int) > (tot (fn (E y)) n:Nat) by omega),if_pos (by decide)] at h
   exact absurd h (by decide)
  ·rw [if_neg (show ¬((tot (fn (E x)) n:Nat):Int)<(tot (fn (E y)) n:Nat) by omega),if_neg (show ¬((tot (fn (E x)) n:Nat):Int) > (tot (fn (E y)) n:Nat) by omega),if_neg (by decide)] at h
   exact (cmpN_zero h).2 e2
theorem ordE {A:EvE→Prop} (hA:∀ x,A x→(E x).length=n):OrdE A (cfE n E) (LE n E) lxE where
 tr x y z _ _ _ h k:=by
  rcases h with h | ⟨h,h2⟩ <;> rcases k with k | ⟨k,k2⟩
  ·exact .inl (befP_trans h k)
  ·exact .inl (by rw [←k];exact h)
  ·exact .inl (by rw [h];exact k)
  ·exact .inr ⟨h.trans k,lxE_trans h2 k2⟩
 yes x y _ _ _ h:=.inl (cfE_neg.1 h)
 no x y hx hy hl h:=by
  rw [cfE_neg] at h
  rcases befP_len (hA x hx) (hA y hy) with e | e | e
  ·exact .inr ⟨e,hl⟩
  ·exact .inl e
  ·exact absurd e h
structure IsGrp (n:Nat) (E:EvE→List Nat) (P:EvE→Prop) (G:List (List EvE)):Prop where
 ne:∀ g∈G,g≠[]
 mem:∀ x,(∃ g∈G,x∈g)↔P x
 srt:∀ g∈G,g.Pairwise lxE
 eq:∀ g∈G,∀ x∈g,∀ y∈g,E x=E y
 bef:G.Pairwise fun g h=>∀ x∈g,∀ y∈h,befP n (fn (E x)) (fn (E y))
theorem IsGrp.ref {O : List EvE} {G : List (List EvE)} (h : IsGrp n E (· ∈ O) G) (hO : O.Pairwise lxE) {Es : List (List Nat)} (hs : Es.Pairwise fun a b => befP n (fn a) (fn b)) (hm : ∀ e, e ∈ Es ↔ ∃ x ∈ O, E x = e) :
    G=Es.map fun e=>O.filter fun x=>decide (E x=e):=by
 have key:∀ g∈G,∀ x∈g,E (g.headD (0,0))=E x:=fun g hg x hx=>by
  cases g with
  | nil => cases hx
  | cons a t => exact h.eq _ hg a (List.mem_cons_self ..) x hx
 have hhd:∀ g∈G,g.headD (0,0)∈g:=fun g hg=>by
  cases g with
  | nil => exact absurd rfl (h.ne _ hg)
  | cons a t => exact List.mem_cons_self ..
 have hk:G.map (fun g=>E (g.headD (0,0)))=Es:=by
  refine sorted_uniq (R:=fun a b=>befP n (fn a) (fn b)) (fun a b h1 h2=>befP_irrefl n _ (befP_trans h1 h2)) ?_ hs fun e=>?_
  ·rw [List.pairwise_map]
   exact h.bef.imp_of_mem fun {g k} hg hk2 hh=>hh _ (hhd g hg) _ (hhd k hk2)
  ·rw [hm,List.mem_map]
   constructor
   ·rintro ⟨g,hg,rfl⟩
    exact ⟨_,(h.mem _).1 ⟨g,hg,hhd g hg⟩,rfl⟩
   ·rintro ⟨x,hx,rfl⟩
    obtain ⟨g,hg,hxg⟩:=(h.mem x).2 hx
    exact ⟨g,hg,key g hg x hxg⟩
 have hg:∀ g∈G,g=O.filter fun x=>decide (E x=E (g.headD (0,0))):=fun g hg=>by
  refine sorted_uniq (R:=lxE) (fun _ _=>lxE_asymm) (h.srt g hg) (hO.sublist List.filter_sublist) fun x=>?_
  rw [List.mem_filter,decide_eq_true_iff]
  refine ⟨fun hx=>⟨(h.mem x).1 ⟨g,hg,hx⟩,(key g hg x hx).symm⟩,fun ⟨hx,he⟩=>?_⟩
  obtain ⟨k,hk2,hxk⟩:=(h.mem x).2 hx
  obtain ⟨i,hi,rfl⟩:=List.getElem_of_mem hg
  obtain ⟨j,hj,rfl⟩:=List.getElem_of_mem hk2
  have hb:=List.pairwise_iff_getElem.1 h.bef
  rcases Nat.lt_trichotomy i j with e | e | e
  ·have:=hb i j hi hj e _ (hhd _ hg) x hxk
   rw [he] at this;exact absurd this (befP_irrefl n _)
  ·subst e;exact hxk
  ·have:=hb j i hj hi e x hxk _ (hhd _ hg)
   rw [he] at this;exact absurd this (befP_irrefl n _)
 rw [←hk,List.map_map]
 conv=>lhs;rw [←List.map_id G]
 exact List.map_congr_left fun g h1=>hg g h1
def putL (G:List (List EvE)) (x:EvE):List (List EvE):=G.set (G.length - 1) (G.getD (G.length - 1) []++[x])
theorem putL_snoc (G:List (List EvE)) (g:List EvE) (x:EvE):putL (G++[g]) x=G++[g++[x]]:=by
 unfold putL
 simp [List.length_append]
structure GrpI (n:Nat) (E:EvE→List Nat) (d:Nat→EvE) (k:Nat) (G:List (List EvE)):Prop where
 g:IsGrp n E (fun x=>∃ j,j<k∧x=d j) G
 last:0<k→∃ G0 g,G=G0++[g]∧d (k - 1)∈g
theorem GrpI.zero (d:Nat→EvE):GrpI n E d 0 []:=⟨⟨by simp,fun x=>⟨fun ⟨g,h,_⟩=>(by cases h),fun ⟨j,h,_⟩=>absurd h (by omega)⟩,by simp,by simp,List.Pairwise.nil⟩,fun h=>absurd h (by omega)⟩
theorem GrpI.start {d:Nat→EvE} {k N:Nat} {G:List (List EvE)} (h:GrpI n E d k G) (hk:k<N) (hs:Srtd (LE n E) d 0 N) (hne:k=0∨E (d (k - 1))≠E (d k)):GrpI n E d (k+1) (G++[[d k]]):=by
 have hb:∀ j,j<k→befP n (fn (E (d j))) (fn (E (d k))):=fun j hj=>by
  have h1:befP n (fn (E (d (k - 1)))) (fn (E (d k))):=by
   rcases hs (k - 1) k (by omega) (by omega) hk with h1 | h1
   ·exact h1
   ·rcases hne with h2 | h2
    ·omega
    ·exact absurd h1.1 h2
  by_cases e:j=k - 1
  ·subst e;exact h1
  ·rcases hs j (k - 1) (by omega) (by omega) (by omega) with h2 | h2
   ·exact befP_trans h2 h1
   ·rw [h2.1];exact h1
 refine ⟨⟨fun g hg=>?_,fun x=>?_,fun g hg=>?_,fun g hg=>?_,?_⟩,fun _=>⟨G,[d k],rfl,by simp⟩⟩
 ·rcases List.mem_append.1 hg with hg | hg
  ·exact h.g.ne g hg
  ·obtain rfl:=List.mem_singleton.1 hg;simp
 ·constructor
  ·rintro ⟨g,hg,hx⟩
   rcases List.mem_append.1 hg with hg | hg
   ·obtain ⟨j,h1,h2⟩:=(h.g.mem x).1 ⟨g,hg,hx⟩;exact ⟨j,by omega,h2⟩
   ·obtain rfl:=List.mem_singleton.1 hg
    exact ⟨k,by omega,List.mem_singleton.1 hx⟩
  ·rintro ⟨j,h1,rfl⟩
   by_cases e:j=k
   ·subst e;exact ⟨[d j],by simp,by simp⟩
   ·obtain ⟨g,hg,hx⟩:=(h.g.mem (d j)).2 ⟨j,by omega,rfl⟩
    exact ⟨g,List.mem_append_left _ hg,hx⟩
 ·rcases List.mem_append.1 hg with hg | hg
  ·exact h.g.srt g hg
  ·obtain rfl:=List.mem_singleton.1 hg;exact List.pairwise_singleton _ _
 ·rcases List.mem_append.1 hg with hg | hg
  ·exact h.g.eq g hg
  ·obtain rfl:=List.mem_singleton.1 hg
   intro x hx y hy
   rw [List.mem_singleton.1 hx,List.mem_singleton.1 hy]
 ·refine List.pairwise_append.2 ⟨h.g.bef,List.pairwise_singleton _ _,fun g hg m hm x hx y hy=>?_⟩
  obtain rfl:=List.mem_singleton.1 hm
  obtain rfl:=List.mem_singleton.1 hy
  obtain ⟨j,h1,rfl⟩:=(h.g.mem x).1 ⟨g,hg,hx⟩
  exact hb j h1
theorem GrpI.cont {d:Nat→EvE} {k N:Nat} {G:List (List EvE)} (h:GrpI n E d k G) (hk:k<N) (hs:Srtd (LE n E) d 0 N) (h0:0<k) (he:E (d (k - 1))=E (d k)):GrpI n E d (k+1) (putL G (d k)):=by
 obtain ⟨G0,g,rfl,hl⟩:=h.last h0
 rw [putL_snoc]
 have hgm:g∈G0++[g]:=List.mem_append_right _ (List.mem_singleton.2 rfl)
 have hge:∀ x∈g,E x=E (d k):=fun x hx=>(h.g.eq g hgm x hx _ hl).trans he
 have hB:=List.pairwise_append.1 h.g.bef
 refine ⟨⟨fun m hm=>?_,fun x=>?_,fun m hm=>?_,fun m hm=>?_,?_⟩,fun _=>⟨G0,g++[d k],rfl,by simp⟩⟩
 ·rcases List.mem_append.1 hm with hm | hm
  ·exact h.g.ne m (List.mem_append_left _ hm)
  ·obtain rfl:=List.mem_singleton.1 hm;simp
 ·constructor
  ·rintro ⟨m,hm,hx⟩
   rcases List.mem_append.1 hm with hm | hm
   ·obtain ⟨j,h1,h2⟩:=(h.g.mem x).1 ⟨m,List.mem_append_left _ hm,hx⟩;exact ⟨j,by omega,h2⟩
   ·obtain rfl:=List.mem_singleton.1 hm
    rcases List.mem_append.1 hx with hx | hx
    ·obtain ⟨j,h1,h2⟩:=(h.g.mem x).1 ⟨g,hgm,hx⟩;exact ⟨j,by omega,h2⟩
    ·exact ⟨k,by omega,List.mem_singleton.1 hx⟩
  ·rintro ⟨j,h1,rfl⟩
   by_cases e:j=k
   ·subst e;exact ⟨g++[d j],by simp,by simp⟩
   ·obtain ⟨m,hm,hx⟩:=(h.g.mem (d j)).2 ⟨j,by omega,rfl⟩
    rcases List.mem_append.1 hm with hm | hm
    ·exact ⟨m,List.mem_append_left _ hm,hx⟩
    ·obtain rfl:=List.mem_singleton.1 hm
     exact ⟨m++[d k],by simp,List.mem_append_left _ hx⟩
 ·rcases List.mem_append.1 hm with hm | hm
  ·exact h.g.srt m (List.mem_append_left _ hm)
  ·obtain rfl:=List.mem_singleton.1 hm
   refine List.pairwise_append.2 ⟨h.g.srt g hgm,List.pairwise_singleton _ _,fun x hx y hy=>?_⟩
   obtain rfl:=List.mem_singleton.1 hy
   obtain ⟨j,h1,h2⟩:=(h.g.mem x).1 ⟨g,hgm,hx⟩
   have h3:=hge x hx
   subst h2
   rcases hs j k (by omega) h1 hk with h4 | h4
   ·rw [h3] at h4;exact absurd h4 (befP_irrefl n _)
   ·exact h4.2
 ·rcases List.mem_append.1 hm with hm | hm
  ·exact h.g.eq m (List.mem_append_left _ hm)
  ·obtain rfl:=List.mem_singleton.1 hm
   have hall:∀ x∈g++[d k],E x=E (d k):=fun x hx=>by
    rcases List.mem_append.1 hx with hx | hx
    ·exact hge x hx
    ·rw [List.mem_singleton.1 hx]
   intro x hx y hy
   rw [hall x hx,hall y hy]
 ·refine List.pairwise_append.2 ⟨hB.1,List.pairwise_singleton _ _,fun m hm m2 hm2 x hx y hy=>?_⟩
  obtain rfl:=List.mem_singleton.1 hm2
  have h1:=hB.2.2 m hm g (List.mem_singleton.2 rfl) x hx (d (k - 1)) hl
  have h2:E y=E (d (k - 1)):=by
   rcases List.mem_append.1 hy with hy | hy
   ·exact (hge y hy).trans he.symm
   ·rw [List.mem_singleton.1 hy];exact he.symm
  rw [h2];exact h1
end
end Go.Proofs.YtmhapcnlpoilpaaGreatDoor

namespace Go.Proofs.YtmhapcnlpoilpaaGreatDoor
open Go.RowKit
theorem Que.putC' {w:World} {base size n g off cap:Nat} {xs:List Value} (h:Que w base size (.slice (some ⟨g,off,none⟩) n cap) n xs) {j:Nat} (hj:j<n*size) (v:Value):Que (w.setCell ⟨g,off+j,none⟩ v) base size (.slice (some ⟨g,off,none⟩) n cap) n (xs.set j v):=by
 refine ⟨by rw [List.length_set];exact h.len,?_⟩
 rcases h.val with ⟨ao,hv,hn,ha⟩ | ⟨g',off',cap',hv,h1,h2,h3,h4,h5,h6⟩
 ·subst hn;simp at hj
 ·cases hv
  have hxl:=h.len
  have hcell:w.cell? ⟨g,off+j,none⟩=some (xs[j]'(by omega)):=by rw [h5 j hj];exact List.getElem?_eq_getElem _
  refine .inr ⟨g,off,cap,rfl,h1,by rw [World.size_setCell];exact h2,h3,h4,fun i hi=>?_,fun i hi=>?_⟩
  ·rw [cell_set w g (off+j) (off+i) v hcell]
   by_cases e:i=j
   ·subst e;rw [if_pos rfl,List.getElem?_set_self (by omega)]
   ·rw [if_neg (by omega),List.getElem?_set_ne (fun h=>e h.symm)];exact h5 i hi
  ·rw [cell_set w g (off+j) (off+i) v hcell,frozen_set]
   refine ⟨?_,(h6 i hi).2⟩
   by_cases e:off+i=off+j
   ·rw [if_pos e];rfl
   ·rw [if_neg e];exact (h6 i hi).1
def up {α:Type} (f:Nat→α) (j:Nat) (v:α):Nat→α:=fun k=>if k=j then v else f k
theorem up_same {α:Type} (f:Nat→α) (j:Nat) (v:α):up f j v j=v:=if_pos rfl
theorem up_other {α:Type} (f:Nat→α) {j k:Nat} (v:α) (h:k≠j):up f j v k=f k:=if_neg h
theorem map_up {α:Type} (f:Nat→α) (v:α) {j K:Nat}:((List.range K).map f).set j v=(List.range K).map (up f j v):=by
 refine List.ext_getElem? fun i=>?_
 by_cases hi:i<K
 ·by_cases e:i=j
  ·subst e
   rw [List.getElem?_set_self (by simpa using hi)]
   simp [hi,up_same]
  ·rw [List.getElem?_set_ne (fun h=>e h.symm)]
   simp [hi,up_other f v e]
 ·rw [List.getElem?_eq_none (by simp;omega),List.getElem?_eq_none (by simp;omega)]
theorem map_up_snoc {α:Type} (f:Nat→α) (v:α) (K:Nat):(List.range (K+1)).map (up f K v)=(List.range K).map f++[v]:=by
 rw [List.range_succ,List.map_append]
 congr 1
 ·exact List.map_congr_left fun p hp=>up_other f v (by have:=List.mem_range.1 hp;omega)
 ·simp [up_same]
theorem getD_snocE (G:List (List EvE)) (k:Nat):(G++[[]]).getD k []=G.getD k []:=by
 simp only [List.getD_eq_getElem?_getD]
 by_cases h:k<G.length
 ·rw [List.getElem?_append_left h]
 ·rw [List.getElem?_eq_none (l:=G) (by omega)]
  by_cases e:k=G.length
  ·subst e;simp
  ·rw [List.getElem?_eq_none (by simp;omega)]
theorem putL_len (G:List (List EvE)) (x:EvE):(putL G x).length=G.length:=by simp [putL]
theorem putL_get {G:List (List EvE)} {x:EvE} (h:0<G.length) (k:Nat):(putL G x).getD k []=up (fun k=>G.getD k []) (G.length - 1) (G.getD (G.length - 1) []++[x]) k:=by
 unfold putL up
 rw [List.getD_eq_getElem?_getD]
 by_cases e:k=G.length - 1
 ·subst e;rw [if_pos rfl,List.getElem?_set_self (by omega)];rfl
 ·rw [if_neg e,List.getElem?_set_ne (fun h=>e h.symm)];exact (List.getD_eq_getElem?_getD).symm
structure GpI (B:Nat) (G:List (List EvE)) (vg ve:Value) (NG:Nat→Value) (R:List Row) (w:World):Prop where
 qg:Que w B 1 vg G.length ((List.range G.length).map NG)
 qe:Que w B 1 ve R.length (R.map Row.val)
 qv:∀ k,k<G.length→Que w B 2 (NG k) (G.getD k []).length (evCells (G.getD k []))∧∀ b,(NG k).ownBlock=some b→b<w.heap.size
 ag:∀ b,vg.ownBlock=some b→b<w.heap.size∧ve.ownBlock≠some b∧∀ k,k<G.length→(NG k).ownBlock≠some b
 ae:∀ b,ve.ownBlock=some b→b<w.heap.size∧∀ k,k<G.length→(NG k).ownBlock≠some b
 aa:∀ j k,j<G.length→k<G.length→j≠k→∀ b,(NG j).ownBlock=some b→(NG k).ownBlock≠some b
theorem GpI.start (w:World) (B:Nat):GpI B [] (.slice none 0 0) (.slice none 0 0) (fun _=>.bool false) [] w:=
 ⟨Que.nil _ _ _,Que.nil _ _ _,fun k h=>absurd h (Nat.not_lt_zero _),fun b e=>(by cases e),fun b e=>(by cases e),fun j k h=>absurd h (Nat.not_lt_zero _)⟩
section
variable {B:Nat} {G:List (List EvE)} {vg ve:Value} {NG:Nat→Value} {R:List Row} {w w':World}
theorem GpI.ext (h:GpI B G vg ve NG R w) (x:Ext w w'):GpI B G vg ve NG R w':=
 ⟨h.qg.ext x,h.qe.ext x,fun k hk=>⟨(h.qv k hk).1.ext x,fun b e=>Nat.lt_of_lt_of_le ((h.qv k hk).2 b e) x.le⟩,fun b e=>⟨Nat.lt_of_lt_of_le (h.ag b e).1 x.le,(h.ag b e).2⟩,fun b e=>⟨Nat.lt_of_lt_of_le (h.ae b e).1 x.le,(h.ae b e).2⟩,h.aa⟩
theorem GpI.pushG (h : GpI B G vg ve NG R w) {vg' : Value} (hg : w.grownBy w' vg.ownBlock) (hq : Que w' B 1 vg' (G.length + 1) ((List.range G.length).map NG ++ [.slice none 0 0])) (ho : vg'.ownBlock = vg.ownBlock ∨ vg'.ownBlock = some w.heap.size) :
    GpI B (G++[[]]) vg' ve (up NG G.length (.slice none 0 0)) R w':=by
 have hne:∀ {v:Value},(∀ b,vg.ownBlock=some b→v.ownBlock≠some b)→(∀ b,v.ownBlock=some b→b<w.heap.size)→∀ g,v.ownBlock=some g→w'.heap[g]?=w.heap[g]?:=fun h1 h2 g e=>hg.block g (h2 g e) fun e2=>h1 g e2.symm e
 have hlen:(G++[([]:List EvE)]).length=G.length+1:=by simp
 have hl:=Que.own_lt hq (by omega)
 have hap:∀ k,k<G.length+1→∀ b,(up NG G.length (.slice none 0 0) k).ownBlock=some b→k<G.length∧(NG k).ownBlock=some b:=fun k hk b e=>by
  unfold up at e
  split at e
  ·cases e
  ·exact ⟨by omega,e⟩
 refine ⟨by rw [hlen,map_up_snoc];exact hq,h.qe.same' hg.size (hne (fun b e=>(h.ag b e).2.1) fun b e=>(h.ae b e).1),fun k hk=>⟨?_,fun b e=>?_⟩,fun b e=>⟨hl b e,fun e2=>?_,fun k hk e2=>?_⟩,fun b e=>⟨Nat.lt_of_lt_of_le (h.ae b e).1 hg.size,fun k hk e2=>?_⟩,fun j k hj hk hjk b e e2=>?_⟩
 ·rw [hlen] at hk
  rw [getD_snocE]
  unfold up
  split
  ·next e=>
   have:G.getD k []=[]:=by rw [List.getD_eq_getElem?_getD,List.getElem?_eq_none (by omega)];rfl
   rw [this];exact Que.nil _ _ _
  ·next e=>exact (h.qv k (by omega)).1.same' hg.size (hne (fun b e=>(h.ag b e).2.2 k (by omega)) (h.qv k (by omega)).2)
 ·rw [hlen] at hk
  obtain ⟨h1,h2⟩:=hap k hk b e
  exact Nat.lt_of_lt_of_le ((h.qv k h1).2 b h2) hg.size
 ·rcases ho with h1 | h1
  ·rw [h1] at e;exact (h.ag b e).2.1 e2
  ·rw [h1] at e
   obtain rfl:w.heap.size=b:=by simpa using e
   exact absurd (h.ae _ e2).1 (Nat.lt_irrefl _)
 ·rw [hlen] at hk
  obtain ⟨h2,h3⟩:=hap k hk b e2
  rcases ho with h1 | h1
  ·rw [h1] at e;exact (h.ag b e).2.2 k h2 h3
  ·rw [h1] at e
   obtain rfl:w.heap.size=b:=by simpa using e
   exact absurd ((h.qv k h2).2 _ h3) (Nat.lt_irrefl _)
 ·rw [hlen] at hk
  obtain ⟨h2,h3⟩:=hap k hk b e2
  exact (h.ae b e).2 k h2 h3
 ·rw [hlen] at hj hk
  obtain ⟨h1,h2⟩:=hap j hj b e
  obtain ⟨h3,h4⟩:=hap k hk b e2
  exact h.aa j k h1 h3 hjk b h2 h4
theorem GpI.pushE (h : GpI B G vg ve NG R w) {ve' : Value} {r : Row} (hg : w.grownBy w' ve.ownBlock) (hq : Que w' B 1 ve' (R.length + 1) (R.map Row.val ++ [r.val])) (ho : ve'.ownBlock = ve.ownBlock ∨ ve'.ownBlock = some w.heap.size) :
    GpI B G vg ve' NG (R++[r]) w':=by
 have hne:∀ {v:Value},(∀ b,ve.ownBlock=some b→v.ownBlock≠some b)→(∀ b,v.ownBlock=some b→b<w.heap.size)→∀ g,v.ownBlock=some g→w'.heap[g]?=w.heap[g]?:=fun h1 h2 g e=>hg.block g (h2 g e) fun e2=>h1 g e2.symm e
 have hl:=Que.own_lt hq (by omega)
 refine ⟨h.qg.same' hg.size (hne (fun b e e2=>(h.ag b e2).2.1 e) fun b e=>(h.ag b e).1),by simpa using hq,fun k hk=>⟨(h.qv k hk).1.same' hg.size (hne (fun b e=>(h.ae b e).2 k hk) (h.qv k hk).2),fun b e=>Nat.lt_of_lt_of_le ((h.qv k hk).2 b e) hg.size⟩,
  fun b e=>⟨Nat.lt_of_lt_of_le (h.ag b e).1 hg.size,fun e2=>?_,(h.ag b e).2.2⟩,fun b e=>⟨hl b e,fun k hk e2=>?_⟩,h.aa⟩
 ·rcases ho with h1 | h1
  ·rw [h1] at e2;exact (h.ag b e).2.1 e2
  ·rw [h1] at e2
   obtain rfl:w.heap.size=b:=by simpa using e2
   exact absurd (h.ag _ e).1 (Nat.lt_irrefl _)
 ·rcases ho with h1 | h1
  ·rw [h1] at e;exact (h.ae b e).2 k hk e2
  ·rw [h1] at e
   obtain rfl:w.heap.size=b:=by simpa using e
   exact absurd ((h.qv k hk).2 _ e2) (Nat.lt_irrefl _)
theorem GpI.put (h : GpI B G vg ve NG R w) (h0 : 0 < G.length) {v' : Value} {x : EvE} (hg : w.grownBy w' (NG (G.length - 1)).ownBlock) (hq : Que w' B 2 v' ((G.getD (G.length - 1) []).length + 1) (evCells (G.getD (G.length - 1) [] ++ [x]))) (ho : v'.ownBlock = (NG (G.length - 1)).ownBlock ∨ v'.ownBlock = some w.heap.size)
    {g o c:Nat} (hv:vg=.slice (some ⟨g,o,none⟩) G.length c):GpI B (putL G x) vg ve (up NG (G.length - 1) v') R (w'.setCell ⟨g,o+(G.length - 1),none⟩ v'):=by
 obtain ⟨j,hj⟩:∃ j,j=G.length - 1:=⟨_,rfl⟩
 rw [←hj] at hg hq ho ⊢
 have hjl:j<G.length:=by omega
 have hl:=Que.own_lt hq (by omega)
 have hgo:vg.ownBlock=some g:=by rw [hv];rfl
 have hA:=h.ag g hgo
 have hvo:∀ b,v'.ownBlock=some b→b≠g:=fun b e e2=>by
  subst e2
  rcases ho with h1 | h1
  ·rw [h1] at e;exact hA.2.2 j hjl e
  ·rw [h1] at e
   obtain rfl:w.heap.size=b:=by simpa using e
   exact absurd hA.1 (Nat.lt_irrefl _)
 have hne:∀ {v:Value},(∀ b,(NG j).ownBlock=some b→v.ownBlock≠some b)→(∀ b,v.ownBlock=some b→b<w.heap.size)→∀ b,v.ownBlock=some b→w'.heap[b]?=w.heap[b]?:=fun h1 h2 b e=>hg.block b (h2 b e) fun e2=>h1 b e2.symm e
 have hst:∀ {v:Value},(∀ b,v.ownBlock=some b→b≠g)→∀ b,v.ownBlock=some b→(w'.setCell ⟨g,o+j,none⟩ v').heap[b]?=w'.heap[b]?:=fun h1 b e=>Below.heap_setCell _ _ _ _ (h1 b e)
 have hsz:w'.heap.size≤(w'.setCell ⟨g,o+j,none⟩ v').heap.size:=by rw [World.size_setCell];exact Nat.le_refl _
 have hsw:w.heap.size≤(w'.setCell ⟨g,o+j,none⟩ v').heap.size:=Nat.le_trans hg.size hsz
 have hap:∀ k,k<G.length→∀ b,(up NG j v' k).ownBlock=some b→(k=j∧v'.ownBlock=some b)∨(k≠j∧(NG k).ownBlock=some b):=fun k hk b e=>by
  unfold up at e
  split at e
  ·next h1=>exact .inl ⟨h1,e⟩
  ·next h1=>exact .inr ⟨h1,e⟩
 have hvn:∀ b k,k<G.length→k≠j→v'.ownBlock=some b→(NG k).ownBlock≠some b:=fun b k hk hkj e e2=>by
  rcases ho with h1 | h1
  ·rw [h1] at e;exact h.aa j k hjl hk (fun h=>hkj h.symm) b e e2
  ·rw [h1] at e
   obtain rfl:w.heap.size=b:=by simpa using e
   exact absurd ((h.qv k hk).2 _ e2) (Nat.lt_irrefl _)
 have hve:∀ b,v'.ownBlock=some b→ve.ownBlock≠some b:=fun b e e2=>by
  rcases ho with h1 | h1
  ·rw [h1] at e;exact (h.ae b e2).2 j hjl e
  ·rw [h1] at e
   obtain rfl:w.heap.size=b:=by simpa using e
   exact absurd (h.ae _ e2).1 (Nat.lt_irrefl _)
 refine ⟨?_,?_,fun k hk=>⟨?_,fun b e=>?_⟩,fun b e=>?_,fun b e=>?_,fun i k hi hk hik b e e2=>?_⟩
 ·rw [putL_len,←map_up]
  have h1:Que w' B 1 vg G.length ((List.range G.length).map NG):=h.qg.same' hg.size (hne (fun b e e2=>(h.ag b e2).2.2 j hjl e) fun b e=>(h.ag b e).1)
  rw [hv] at h1 ⊢
  exact h1.putC' (by omega) v'
 ·exact (h.qe.same' hg.size (hne (fun b e e2=>(h.ae b e2).2 j hjl e) fun b e=>(h.ae b e).1)).same' hsz (hst fun b e e2=>hA.2.1 (by rw [←e2];exact e))
 ·rw [putL_len] at hk
  rw [putL_get h0,←hj]
  unfold up
  split
  ·next e=>rw [List.length_append];exact hq.same' hsz (hst hvo)
  ·next e=>exact ((h.qv k hk).1.same' hg.size (hne (fun b e2=>h.aa j k hjl hk (fun h=>e h.symm) b e2) (h.qv k hk).2)).same' hsz (hst fun b e3 e4=>hA.2.2 k hk (by rw [←e4];exact e3))
 ·rw [putL_len] at hk
  rcases hap k hk b e with ⟨_,e⟩ | ⟨_,e⟩
  ·exact Nat.lt_of_lt_of_le (hl b e) hsz
  ·exact Nat.lt_of_lt_of_le ((h.qv k hk).2 b e) hsw
 ·refine ⟨Nat.lt_of_lt_of_le (h.ag b e).1 hsw,(h.ag b e).2.1,fun k hk e2=>?_⟩
  rw [putL_len] at hk
  have hb:g=b:=by rw [hgo] at e;simpa using e
  rcases hap k hk b e2 with ⟨_,e3⟩ | ⟨_,e3⟩
  ·exact hvo b e3 hb.symm
  ·exact (h.ag b e).2.2 k hk e3
 ·refine ⟨Nat.lt_of_lt_of_le (h.ae b e).1 hsw,fun k hk e2=>?_⟩
  rw [putL_len] at hk
  rcases hap k hk b e2 with ⟨_,e3⟩ | ⟨_,e3⟩
  ·exact hve b e3 e
  ·exact (h.ae b e).2 k hk e3
 ·rw [putL_len] at hi hk
  rcases hap i hi b e with ⟨i1,e3⟩ | ⟨i1,e3⟩ <;> rcases hap k hk b e2 with ⟨k1,e4⟩ | ⟨k1,e4⟩
  ·exact hik (i1.trans k1.symm)
  ·exact hvn b k hk k1 e3 e4
  ·exact hvn b i hi i1 e4 e3
  ·exact h.aa i k hi hk hik b e3 e4
end
def Cg (S:Nat→Prop) (w w':World):Prop:=Below 0 w w'∧∀ g,g<w.heap.size→¬S g→w'.heap[g]?=w.heap[g]?
theorem Cg.le {S:Nat→Prop} {w w':World} (h:Cg S w w'):w.heap.size≤w'.heap.size:=h.1.size
theorem Cg.refl (S:Nat→Prop) (w:World):Cg S w w:=⟨Below.refl _ _,fun _ _ _=>rfl⟩
theorem Cg.trans {S:Nat→Prop} {a b c:World} (h:Cg S a b) (k:Cg S b c):Cg S a c:=⟨h.1.trans k.1,fun g hg hs=>(k.2 g (Nat.lt_of_lt_of_le hg h.le) hs).trans (h.2 g hg hs)⟩
theorem Ext.cg {w w':World} (h:Ext w w') (S:Nat→Prop):Cg S w w':=⟨Below.mono h (Nat.zero_le _),fun g hg _=>h.block g hg⟩
theorem Cg.drew {S:Nat→Prop} {w w':World} (h:Cg S w w'):Cg S w w'.drew:=h.trans ((Ext.refl w').drew.cg S)
theorem Cg.alloc {S:Nat→Prop} {w w':World} (h:Cg S w w') (o:Obj):Cg S w (w'.alloc o):=h.trans ((Ext.alloc w' o).cg S)
theorem Cg.set {S:Nat→Prop} {w W:World} (h:Cg S w W) (p:Addr) (v:Value) (hp:S p.block):Cg S w (W.setCell p v):=
 ⟨h.1.setCell (Nat.zero_le _) v,fun g hg hn=>(Below.heap_setCell _ _ _ _ (fun e=>by subst e;exact hn hp)).trans (h.2 g hg hn)⟩
theorem Cg.grown {S:Nat→Prop} {w W W':World} (h:Cg S w W) {v:Option Nat} (hg:W.grownBy W' v) (hv:∀ g,v=some g→S g∨w.heap.size≤g):Cg S w W':=
 ⟨h.1.grown hg (Nat.zero_le _) (fun _ _=>Nat.zero_le _),fun g hg' hn=>(hg.block g (Nat.lt_of_lt_of_le hg' h.le) fun e=>by
  rcases hv g e.symm with k | k
  ·exact hn k
  ·omega).trans (h.2 g hg' hn)⟩
theorem Hold.blkG {W W':World} {b:Nat} {c:Array Value} (h:Hold W b c) (e:W'.heap[b]?=W.heap[b]?):Hold W' b c:=by
 obtain ⟨t,h⟩:=h
 exact ⟨t,e.trans h⟩
theorem Hold.cg {S:Nat→Prop} {w w':World} {b:Nat} {c:Array Value} (h:Hold w b c) (k:Cg S w w') (hb:¬S b):Hold w' b c:=h.blkG (k.2 b h.lt hb)
theorem Hold.grownG {W W':World} {b:Nat} {c:Array Value} {o:Option Nat} (h:Hold W b c) (hg:W.grownBy W' o) (ho:o≠some b):Hold W' b c:=h.blkG (hg.block b h.lt fun e=>ho e.symm)
theorem Hold.boxG {S:Nat→Prop} {w:World} {b:Nat} {c:Array Value} (h:Hold w b c) (hb:¬S b):(∀ w',Cg S w w'→b<w'.heap.size)∧∀ w',Cg S w w'→∀ i,w'.cell? ⟨b,i,none⟩=c[i]?:=
 ⟨fun _ k=>(h.cg k hb).lt,fun _ k i=>(h.cg k hb).cell0 i⟩
theorem Hold.srcG {P:Program} {W:World} {b:Nat} {l:List Value} {size:Nat} (h:Hold W b l.toArray) {t e:TypeId} (hk:P.underlying t=some (.slice e)) (hl:l.length=size) (h1:∀ u∈l,u.oneCell'=true):Src P size t (.slice (some ⟨b,0,none⟩) 1 1) 1 l W:=by
 refine Src.ofSlice W hk ⟨b,0,none⟩ 1 1 l (by omega) (fun j u hu=>?_) h1
 rw [Addr.add_lit,Nat.zero_add,h.cell0 j]
 simpa using hu
theorem step_appendG {P : Program} (w : World) {ops : Array Oper} {o : Oper} {a : Act} {K : Act → World → Prop} {Q : Exit → Act → World → Prop} {E : Prop} (hgd : o.guard = none) (s x : Operand) (t tx : TypeId)
    (ho:o.op=.call { callee:=.builtin .append,args:=#[s,x],argTypes:=#[t,tx] })
    {base:Nat} {e:TypeId} {size:Nat} (i:TypeInfo) (z:Value) (bytes:Nat) (ht:P.underlying t=some (.slice e)) (hi:P.info? e=some i) (hz:i.zero=some z) (hsize:i.size=size) (hby:i.bytes=bytes) (hzs:z.cells.size=size)
    {v:Value} {n:Nat} {xs:List Value} (hv:a.eval s=v) (h:Que w base size v n xs) (hb:base≤w.heap.size)
    (xv:Value) (m:Nat) (news:List Value) (hx:a.eval x=xv) (hs:Src P size tx xv m news w) (h63:n+m≤maxLen) (hbytes:(n+m)*bytes≤140737488355328)
    (hK:∀ v' w',Que w' base size v' (n+m) (xs++news)→w.grownBy w' v.ownBlock→(v'.ownBlock=v.ownBlock∨v'.ownBlock=some w.heap.size)→K (a.put o.dst v') w') :
    if Region.wanted o (yielded ops a.tmps)=true then Oper.wp P o a w K Q else E:=by
 have hw:Region.wanted o (yielded ops a.tmps)=true:=by simp [Region.wanted,hgd]
 rw [if_pos hw]
 obtain ⟨v',w',hrun,r1,r2,r3⟩:=run_append_que (P:=P) t tx o.type e i z size bytes ht hi hz hsize hby hzs h hb xv m news hs h63 hbytes
 unfold Oper.wp
 simp [execOp,ho,resolve,invoke,builtin,hv,hx,hrun,Result.andThen]
 exact hK v' w' r1 r2 r3
def GrpQ (w:World) (base:Nat) (v:Value) (G:List (List EvE)):Prop:=∃ NG:Nat→Value,Que w base 1 v G.length ((List.range G.length).map NG)∧∀ k,k<G.length→Que w base 2 (NG k) (G.getD k []).length (evCells (G.getD k []))
theorem GpI.grp {B:Nat} {G:List (List EvE)} {vg ve:Value} {NG:Nat→Value} {R:List Row} {w:World} (h:GpI B G vg ve NG R w):GrpQ w B vg G:=⟨NG,h.qg,fun k hk=>(h.qv k hk).1⟩
end Go.Proofs.YtmhapcnlpoilpaaGreatDoor

namespace Go.Proofs.YtmhapcnlpoilpaaGreatDoor
open Go.RowKit Go.Shelf
attribute [local go_sem] Oper.semAt_some
theorem sumN_natV {u:Nat→Nat}:∀ {n:Nat},sumN (natV u) n=(tot u n:Nat)
 | 0 => rfl
 | n+1 => by show sumN (natV u) n+natV u n=((tot u n+u n:Nat):Int);rw [sumN_natV];unfold natV;omega
set_option maxHeartbeats 1000000 in
theorem ssize_any (w : World) (n cap : Nat) (a : Option Addr) (g o : Nat) (v : Nat → Int) (hA : NumAt w n a g o v) (hn : n ≤ 100) (hv : ∀ k, k < n → 0 ≤ v k ∧ v k ≤ 1000000) :
    Calls Tryz.prog 163 #[.slice a n cap] w fun e w'=>e=.returned (.int .i64 (sumN v n))∧Ext w w':=by
 have HA:=Lib.hid hA
 have HV:=Lib.hid hv
 clear hA hv
 go_enter Tryz.func163,Tryz.ntmps163
 go_wp2_with fail
 go_loopg [3,8] n (fun gg v3 v8 wr=>∃ k:Nat,k≤n∧gg=n - k∧v8=.int .i64 k∧v3=.int .i64 (sumN v k)∧Ext w wr)
 case atStart=>exact ⟨0,by omega,rfl,rfl,rfl,Ext.refl _⟩
 case round=>
  obtain ⟨k,hk,rfl,rfl,rfl,hxr⟩:=hrel
  by_cases hlt:k<n
  ·have hlt':(k:Int)<(n:Int):=by omega
   obtain rfl:=HA.out.pa (by omega)
   obtain ⟨x,hx⟩:∃ x,x=v k:=⟨_,rfl⟩
   obtain ⟨s,hs⟩:∃ s,s=sumN v k:=⟨_,rfl⟩
   have hsb:=sumN_le (v:=v) (c:=1000000) (n:=k) fun j hj=>HV.out j (by omega)
   have hxb:=HV.out k hlt
   rw [←hx] at hxb
   rw [←hs] at hsb ⊢
   have hc:wr.cell? ⟨g,o+k,none⟩=some (.int .i64 x):=by rw [hx];exact hxr.cell (HA.out.c k hlt)
   have hg:g<wr.heap.size:=Nat.lt_of_lt_of_le (HA.out.pb (by omega)) hxr.le
   have hk2:k*1000000≤100*1000000:=Nat.mul_le_mul_right _ (by omega)
   have hw:IntKind.i64.wrap (s+x)=s+x:=IntWalk.i64_in _ (by omega)
   have HX:=Lib.hid hx
   have HS:=Lib.hid hs
   clear hx hs
   go_wp2_with fail
   go_roundg (n - (k+1))
   case rel=>exact ⟨k+1,by omega,rfl,by go_num,by show _=Value.int .i64 (sumN v k+v k);rw [←HX.out,←HS.out],hxr⟩
   case measure=>omega
  ·have hlt':decide ((k:Int)<(n:Int))=false:=decide_eq_false (by omega)
   obtain rfl:k=n:=by omega
   go_wp2_with fail
   go_ret
   exact ⟨rfl,hxr⟩
def SlcD.E (S:SlcD) (n:Nat) (x:EvE):List Nat:=rowOf n fun q=>((S.j.m x.1.toNat).val (x.2.toNat - 1) q).toNat
def SlcD.Has (S:SlcD) (n:Nat) (x:EvE):Prop:=∃ p i:Nat,x=((p:Int),(i:Int)+1)∧p<S.j.s.n∧i<(S.j.m p).n∧(S.j.m p).rn i=n∧∀ q,q<n→0≤(S.j.m p).val i q∧(S.j.m p).val i q≤1000
theorem SlcD.E_len (S:SlcD) (n:Nat) (x:EvE):(S.E n x).length=n:=rowOf_len _ _
theorem SlcD.E_at (S:SlcD) (n p i:Nat):S.E n ((p:Int),(i:Int)+1)=rowOf n fun q=>((S.j.m p).val i q).toNat:=by
 unfold SlcD.E
 simp only [Int.toNat_natCast]
 rw [show ((i:Int)+1).toNat - 1=i by omega]
theorem NumAt.row {w:World} {n:Nat} {a:Option Addr} {g o:Nat} {v:Nat→Int} (h:NumAt w n a g o v) (hv:∀ q,q<n→0≤v q):NumAt w n a g o (natV (fn (rowOf n fun q=>(v q).toNat))):=
 ⟨h.hn,h.pa,h.pb,fun k hk=>by rw [h.c k hk];unfold natV;rw [fn_rowOf hk];congr 2;have:=hv k hk;omega⟩
def SlcD.row (S:SlcD) (n:Nat) (x:EvE):Row:=⟨S.E n x,(S.j.m x.1.toNat).ra (x.2.toNat - 1),(S.j.m x.1.toNat).rb (x.2.toNat - 1),(S.j.m x.1.toNat).ro (x.2.toNat - 1),(S.j.m x.1.toNat).rc (x.2.toNat - 1)⟩
theorem SlcD.row_at {S:SlcD} {n:Nat} {x:EvE} {w:World} (hS:S.At w) (h:S.Has n x):(S.row n x).At w∧(S.row n x).val=.slice ((S.j.m x.1.toNat).ra (x.2.toNat - 1)) n ((S.j.m x.1.toNat).rc (x.2.toNat - 1)):=by
 obtain ⟨p,i,rfl,hp,hi,hr,hv⟩:=h
 have h1:=(hS.j.c p hp).2.num hi
 rw [hr] at h1
 refine ⟨?_,by unfold Row.val SlcD.row;simp only [S.E_len]⟩
 show NumAt w (S.E n ((p:Int),(i:Int)+1)).length ((S.j.m (p:Int).toNat).ra (((i:Int)+1).toNat - 1)) ((S.j.m (p:Int).toNat).rb (((i:Int)+1).toNat - 1)) ((S.j.m (p:Int).toNat).ro (((i:Int)+1).toNat - 1)) (natV (fn (S.E n ((p:Int),(i:Int)+1))))
 rw [show ((i:Int)+1).toNat - 1=i by omega,Int.toNat_natCast,S.E_len,S.E_at]
 exact h1.row fun q hq=>(hv q hq).1
set_option maxHeartbeats 1000000 in
theorem elem_any (w : World) (S : SlcD) (hS : S.At w) (n : Nat) (x : EvE) (h : S.Has n x) :
    Calls Tryz.prog 160 #[S.val,evW x] w fun e w'=>e=.returned (S.row n x).val∧Ext w w':=by
 have h1:=(SlcD.row_at hS h).2
 obtain ⟨p,i,rfl,hp,hi,hr,hv⟩:=h
 rw [h1]
 simp only [Int.toNat_natCast]
 rw [show ((i:Int)+1).toNat - 1=i by omega,←hr]
 exact tel_any w S hS p i _ hp hi rfl
set_option maxHeartbeats 2000000 in
theorem grp1_any (w : World) (S : SlcD) (hS : S.At w) (bs : Nat) (cs : SBox w bs S) (n : Nat) (hn : n ≤ 100) (x y : EvE) (hx : S.Has n x) (hy : S.Has n y) :
    Calls Tryz.prog 159 #[evW x,evW y,.pointer (some ⟨bs,0,none⟩)] w fun e w'=>e=.returned (.int .i64 (cfE n (S.E n) x y))∧Ext w w':=by
 have HEX:=Lib.hid (fun W (z:Ext w W)=>elem_any W S (hS.ext z) n x hx)
 have HEY:=Lib.hid (fun W (z:Ext w W)=>elem_any W S (hS.ext z) n y hy)
 have rX:=(SlcD.row_at hS hx).1
 have rY:=(SlcD.row_at hS hy).1
 have vX:(S.row n x).val=.slice (S.row n x).a n (S.row n x).c:=by unfold Row.val SlcD.row;simp only [S.E_len]
 have vY:(S.row n y).val=.slice (S.row n y).a n (S.row n y).c:=by unfold Row.val SlcD.row;simp only [S.E_len]
 have hEX:(S.row n x).l=S.E n x:=rfl
 have hEY:(S.row n y).l=S.E n y:=rfl
 have HBX:=Lib.hid (show ∀ k,k<n→0≤natV (fn (S.E n x)) k∧natV (fn (S.E n x)) k≤1000000 from fun k hk=>by
  obtain ⟨p,i,rfl,_,_,_,hv⟩:=hx
  have:=hv k hk
  rw [S.E_at];unfold natV;rw [fn_rowOf hk];omega)
 have HBY:=Lib.hid (show ∀ k,k<n→0≤natV (fn (S.E n y)) k∧natV (fn (S.E n y)) k≤1000000 from fun k hk=>by
  obtain ⟨p,i,rfl,_,_,_,hv⟩:=hy
  have:=hv k hk
  rw [S.E_at];unfold natV;rw [fn_rowOf hk];omega)
 unfold Row.At at rX rY
 rw [hEX,S.E_len] at rX
 rw [hEY,S.E_len] at rY
 have HRX:=Lib.hid rX
 have HRY:=Lib.hid rY
 obtain ⟨r,hr⟩:∃ r,r=cfE n (S.E n) x y:=⟨_,rfl⟩
 rw [←hr]
 have HR:=Lib.hid hr
 rw [vX] at HEX
 rw [vY] at HEY
 obtain ⟨ax,hax⟩:∃ z,z=(S.row n x).a:=⟨_,rfl⟩
 obtain ⟨cx,hcx⟩:∃ z,z=(S.row n x).c:=⟨_,rfl⟩
 obtain ⟨ay,hay⟩:∃ z,z=(S.row n y).a:=⟨_,rfl⟩
 obtain ⟨cy,hcy⟩:∃ z,z=(S.row n y).c:=⟨_,rfl⟩
 rw [←hax,←hcx] at HEX
 rw [←hay,←hcy] at HEY
 rw [←hax] at HRX
 rw [←hay] at HRY
 clear hS hx hy rX rY vX vY hEX hEY hr hax hcx hay hcy
 go_enter Tryz.func159,Tryz.ntmps159
 go_upto_region 1 with fail
 refine boxed2 (w:=w) (G:=fun x=>Code.wp _ _ _ _ x) ?_
 intro w1 hx1 hs1 ⟨l0,c0,_,_⟩ ⟨l1,c1,_,_⟩
 have hx11:Ext w1 w1:=Ext.refl _
 have hg0:∀ d os,Ext w (Sort.grow (redrawn w1 d) os):=fun d os=>hx1.trans (below_regrown w1 d os)
 have hg1:∀ d os,Ext w1 (Sort.grow (redrawn w1 d) os):=fun d os=>below_regrown w1 d os
 clear hs1
 refine wp_region_quiet_below (by kernel_rfl) (by kernel_rfl) ?_
 go_big_quiet_step (fail)
 go_big_quiet_step (fail)
 go_big_quiet_step (exact Calls.regrown_of (HEX.out _ (hg0 _ _)))
 go_big_quiet_step (fail)
 go_big_quiet_step (fail)
 go_big_quiet_step (exact Calls.regrown_of (HEY.out _ (hg0 _ _)))
 repeat (go_big_quiet_step (fail))
 refine wpQuiet_nil ?_
 intro _ hw'
 obtain ⟨⟨dq,osq⟩,hw''⟩:=hw'
 subst hw''
 have hx9:=hg0 dq osq
 clear hg0 hg1 c0 c1 l0 l1
 generalize Sort.grow (redrawn w1 dq) osq=w2 at hx9 ⊢
 have hSX:=ssize_any w2 n cx _ _ _ _ (HRX.out.ext hx9) hn HBX.out
 have HSY:=Lib.hid (fun W (z:Ext w W)=>ssize_any W n cy _ _ _ _ (HRY.out.ext z) hn HBY.out)
 go_wp2_with fail
 go_at_call 163
 refine hSX.mono ?_
 rintro e w3 ⟨rfl,hx23⟩
 have hx3:=hx9.trans hx23
 clear hSX
 go_wp2_with fail
 go_at_call 163
 refine (HSY.out w3 hx3).mono ?_
 rintro e w4 ⟨rfl,hx34⟩
 have hx4:=hx3.trans hx34
 rw [sumN_natV,sumN_natV]
 have hci:=cmpInt_any (tot (fn (S.E n x)) n:Nat) (tot (fn (S.E n y)) n:Nat) w4
 have hcr:=cmpr_any w4 ax ay _ _ _ _ n cx cy _ _ (HRX.out.ext hx4) (HRY.out.ext hx4)
 obtain ⟨c1,hc1⟩:∃ c1,c1=Lib.compareInt (tot (fn (S.E n x)) n:Nat) (tot (fn (S.E n y)) n:Nat):=⟨_,rfl⟩
 obtain ⟨c2,hc2⟩:∃ c2,c2=cmpN n (fn (S.E n x)) (fn (S.E n y)):=⟨_,rfl⟩
 rw [←hc1] at hci
 rw [←hc2] at hcr
 have HC:=Lib.hid (show orI c1 c2=r from by rw [hc1,hc2,HR.out];rfl)
 clear hc1 hc2
 go_wp2_with fail
 go_at_call 162
 refine hci.mono ?_
 rintro e w5 ⟨rfl,rfl⟩
 clear hci
 go_wp2_with fail
 go_at_call 164
 refine hcr.mono ?_
 rintro e w6 ⟨rfl,rfl⟩
 clear hcr
 go_wp2_with fail
 have hor:=cmpOr_any (w4.alloc (.cells #[.int .i64 c1,.int .i64 c2] 3)) w4.heap.size c1 c2 (by simp) (by simp)
 rw [show (if (c1 != 0)=true then c1 else c2)=r from HC.out] at hor
 go_at_call 161
 refine hor.mono ?_
 rintro e w6 ⟨rfl,rfl⟩
 clear hor
 go_wp2_with fail
 go_ret
 exact ⟨rfl,hx4.trans (Ext.alloc _ _)⟩
end Go.Proofs.YtmhapcnlpoilpaaGreatDoor
