/- Contracts and laws in plain Lean for RApp: group W70. -/
import Derived.Test.YtkhgpockmaghjaaGreatW65
import Derived.Test.YtkhgpockmaghjaaGreatW62
import Derived.Test.YtkhgpockmaghjaaGreatW56
import Derived.Test.YtkhgpockmaghjaaGreatW69
import Derived.Test.YtkhgpockmaghjaaGreatW54
set_option maxRecDepth 100000
namespace Go.Proofs.YtkhgpockmaghjaaGreat
open Go.RowKit Go.Shelf
attribute [local go_sem] Oper.semAt_some
def Klist2Post (T:Tr) (w:World) (e:Ending) (w':World):Prop:=Ext w w'∧∃ (v:Value) (c:Int) (R:List Row),e=.returned (.tuple #[v,.int .i64 c])∧RowsQ w' w.heap.size v R∧R.length≤5000∧((c=0∧IsCuts T (R.map Row.l))∨(c=16∧R=[]))
set_option maxHeartbeats 2000000 in
theorem klist2_any (w:World) (T:TM) (hT:T.At w) (hV:T.toTr.Valid):Calls Tryz.prog 77 #[T.val] w (Klist2Post T.toTr w):=by
 unfold Klist2Post
 have hlv:=Lib.hid (fun W (x:Ext w W)=>klev_any W T (hT.ext x) hV)
 have hmp:∀ {w2:World} {LV:List (Value × List Row)} {B:Nat} {o:Option Nat},(∀ k (hk:k<LV.length),LvOk T.toTr w2 B o k LV[k])→∀ k (hk:k<LV.length),RowsH w2 B LV[k].1 LV[k].2∧∀ r∈LV[k].2,r.At w2:=fun h k hk=>⟨(h k hk).h,fun r hr=>((h k hk).a r hr).1⟩
 simp only [TM.val] at hlv ⊢
 clear hT hV
 go_enter Tryz.func77,Tryz.ntmps77
 go_upto_region 1 with fail
 refine boxed1 (w:=w) (G:=fun x=>Code.wp _ _ _ _ x) ?_
 intro w1 hx1 hs1 ⟨l0,c0,_,_⟩
 have hx11:Ext w1 w1:=Ext.refl _
 clear hs1
 go_upto_region 2 with (go_at_call 113;refine (hlv.out w1 hx1).mono ?_;rintro e w2 ⟨hx2,hp⟩;rcases hp with ⟨v,LV,rfl,hq,hl,hc,ht⟩ | ⟨rfl,hL⟩)
 ·have hcat:=kcat_any w2 w1.heap.size v LV hq (hmp hl) ht
  have HCU:=Lib.hid (And.intro hc ht)
  clear hmp hlv hq hl hc ht
  go_wp2_with (go_at_call 114;refine hcat.mono ?_;rintro e w3 ⟨hx3,v3,rfl,hq3⟩)
  go_ret2
  exact ⟨(hx1.trans hx2).trans hx3,v3,0,_,rfl,hq3.mono (hx1.trans hx2).le,HCU.out.2,.inl ⟨rfl,HCU.out.1⟩⟩
 ·have hcat:=kcat_any w2 0 (.slice none 0 0) [] (Que.nil _ _ _) (fun k hk=>absurd hk (Nat.not_lt_zero _)) (Nat.zero_le _)
  clear hmp hlv hL
  go_wp2_with (go_at_call 114;refine hcat.mono ?_;rintro e w3 ⟨hx3,v3,rfl,hq3⟩)
  go_ret2
  exact ⟨(hx1.trans hx2).trans hx3,v3,16,[],rfl,hq3.mono (hx1.trans hx2).le,Nat.zero_le _,.inr ⟨rfl,rfl⟩⟩
set_option maxHeartbeats 2000000 in
theorem kList2_any (w:World) (T:TM) (hT:T.At w) (hV:T.toTr.Valid):Calls Tryz.prog 34 #[T.val] w (Klist2Post T.toTr w):=by
 have hls:=Lib.hid (fun W (x:Ext w W)=>klist2_any W T (hT.ext x) hV)
 simp only [TM.val] at hls ⊢
 clear hT hV
 go_enter Tryz.func34,Tryz.ntmps34
 go_upto_region 1 with fail
 refine boxed1 (w:=w) (G:=fun x=>Code.wp _ _ _ _ x) ?_
 intro w1 hx1 hs1 ⟨l0,c0,_,_⟩
 have hx11:Ext w1 w1:=Ext.refl _
 clear hs1
 go_wp2_with (go_at_call 77;refine (hls.out w1 hx1).mono ?_;rintro e w2 ⟨hx2,v,c,R,rfl,h1,h2,h3⟩)
 go_ret2
 exact ⟨hx1.trans hx2,v,c,R,rfl,h1.mono hx1.le,h2,h3⟩
set_option maxHeartbeats 2000000 in
theorem join_any (w : World) (a1 a2 : Option Addr) (g1 o1 g2 o2 n c1 c2 : Nat) (u v : Nat → Int) (h1 : NumAt w n a1 g1 o1 u) (h2 : NumAt w n a2 g2 o2 v) (hn : n ≤ 1000) :
    Calls Tryz.prog 84 #[.slice a1 n c1,.slice a2 n c2] w fun e w'=>Ext w w'∧∃ q,e=.returned q∧Que w' w.heap.size 1 q n (intCells ((List.range n).map fun i=>max (u i) (v i))):=by
 obtain ⟨j0,hj0,hy0,hy1,hy2⟩:=info_parts infoInt
 have H1:=Lib.hid h1
 have H2:=Lib.hid h2
 have hww:Ext w w:=Ext.refl _
 clear h1 h2
 go_enter Tryz.func84,Tryz.ntmps84
 go_wp2_with fail
 go_loopg [5,6] n (fun gg v5 v6 wr=>∃ (k:Nat) (l:List Int) (q:Value),k≤n∧gg=n - k∧v6=.int .i64 k∧v5=q∧Ext w wr∧Que wr w.heap.size 1 q k (intCells l)∧l=(List.range k).map fun i=>max (u i) (v i))
 case atStart=>exact ⟨0,[],_,by omega,rfl,rfl,rfl,hww,Que.nil _ _ _,rfl⟩
 case round=>
  obtain ⟨k,l,q,hk,rfl,rfl,rfl,hxr,hq,hl⟩:=hrel
  obtain ⟨qa,qc,rfl⟩:=hq.slice
  have HQ:=Lib.hid hq
  have HL:=Lib.hid hl
  clear hq hl
  by_cases hlt:k<n
  case neg=>
   obtain rfl:k=n:=by omega
   have HQ2:=Lib.hid (show Que wr w.heap.size 1 (.slice qa k qc) k (intCells ((List.range k).map fun i=>max (u i) (v i))) from by rw [←HL.out];exact HQ.out)
   go_wp2_with fail
   go_ret
   exact ⟨hxr,_,rfl,HQ2.out⟩
  have hlt':(k:Int)<(n:Int):=by omega
  obtain rfl:=H1.out.pa (by omega)
  obtain rfl:=H2.out.pa (by omega)
  have pb1:∀ w',Ext w w'→g1<w'.heap.size:=fun w' x=>Nat.lt_of_lt_of_le (H1.out.pb (by omega)) x.le
  have pb2:∀ w',Ext w w'→g2<w'.heap.size:=fun w' x=>Nat.lt_of_lt_of_le (H2.out.pb (by omega)) x.le
  obtain ⟨x,hx⟩:∃ x,x=u k:=⟨_,rfl⟩
  obtain ⟨y,hy⟩:∃ y,y=v k:=⟨_,rfl⟩
  have p1:∀ w',Ext w w'→w'.cell? ⟨g1,o1+k,none⟩=some (.int .i64 x):=fun w' h=>by rw [hx];exact h.cell (H1.out.c k hlt)
  have q1:∀ w',Ext w w'→w'.cell? ⟨g2,o2+k,none⟩=some (.int .i64 y):=fun w' h=>by rw [hy];exact h.cell (H2.out.c k hlt)
  have HX:=Lib.hid (And.intro hx hy)
  clear hx hy
  go_upto_region 5 with fail
  refine wp_region_held_drew (S:=fun w'=>Ext w w') (by kernel_rfl) hxr.drew (fun hHeld=>?_)
  refine hQ 0 (v:=?_) rfl (y:=.inl ⟨by rfl,?_⟩) (h:=?_)
  rotate_left
  ·(intro w' hSw;(try dsimp only at hSw);have hSS:=Ext.refl w';go_simp;try with_reducible rfl)
  try simp only [Act.put,zA,zB,zC]
  refine hQ 1 (v:=?_) rfl (y:=.inl ⟨by rfl,?_⟩) (h:=?_)
  rotate_left
  ·(intro w' hSw;(try dsimp only at hSw);have hSS:=Ext.refl w';go_simp;try with_reducible rfl)
  try simp only [Act.put,zA,zB,zC]
  refine hQ 2 (v:=?_) rfl (y:=.inl ⟨by rfl,?_⟩) (h:=?_)
  rotate_left
  ·(intro w' hSw;(try dsimp only at hSw);have hSS:=Ext.refl w';go_simp;try with_reducible rfl)
  try simp only [Act.put,zA,zB,zC]
  refine hQ 3 (v:=?_) rfl (y:=.inl ⟨by rfl,?_⟩) (h:=?_)
  rotate_left
  ·(intro w' hSw;(try dsimp only at hSw);have hSS:=Ext.refl w';go_simp;try with_reducible rfl)
  try simp only [Act.put,zA,zB,zC]
  refine hQ 4 (v:=?_) rfl (y:=.inl ⟨by rfl,?_⟩) (h:=?_)
  rotate_left
  ·(intro w' hSw;(try dsimp only at hSw);have hSS:=Ext.refl w';go_simp;try with_reducible rfl)
  try simp only [Act.put,zA,zB,zC]
  refine hQ 5 (v:=?_) rfl (y:=.inl ⟨by rfl,?_⟩) (h:=?_)
  rotate_left
  ·(intro w' hSw;(try dsimp only at hSw);have hSS:=Ext.refl w';go_simp;try with_reducible rfl)
  try simp only [Act.put,zA,zB,zC]
  refine hQ 6 (v:=?_) rfl (y:=.inl ⟨by rfl,?_⟩) (h:=?_)
  rotate_left
  ·(intro w' hSw;(try dsimp only at hSw);have hSS:=Ext.refl w';go_simp;try with_reducible rfl)
  try simp only [Act.put,zA,zB,zC]
  refine hQ 7 (v:=?_) rfl (y:=.inl ⟨by rfl,?_⟩) (h:=?_)
  rotate_left
  ·(intro w' hSw;(try dsimp only at hSw);have hSS:=Ext.refl w';go_simp;try with_reducible rfl)
  try simp only [Act.put,zA,zB,zC]
  refine hQ 8 (v:=?_) rfl (y:=.inl ⟨by rfl,?_⟩) (h:=?_)
  rotate_left
  ·(intro w' hSw;(try dsimp only at hSw);have hSS:=Ext.refl w';go_simp;try with_reducible rfl)
  try simp only [Act.put,zA,zB,zC]
  refine hQ 9 (v:=?_) rfl (y:=.inl ⟨by rfl,?_⟩) (h:=?_)
  rotate_left
  ·(intro w' hSw;(try dsimp only at hSw);have hSS:=Ext.refl w';go_simp;try with_reducible rfl)
  try simp only [Act.put,zA,zB,zC]
  refine wpAnyH_ready (rs:=[10]) (by kernel_rfl) (by simp) ?_
  refine AllReadyH.cons rfl (fun K hK=>?_) AllReadyH.nil
  go_simp
  refine hK.out _ _ (hxr.drew.alloc' _) (fun hHeld2=>?_)
  clear hK K
  try simp only [Act.put]
  refine wpAnyH_ready (rs:=[11]) (by kernel_rfl) (by simp) ?_
  refine AllReadyH.cons rfl (fun K hK=>?_) AllReadyH.nil
  refine step_append_que _ rfl _ _ 39 39 rfl (base:=w.heap.size) (e:=3) (size:=1) j0 (.int .i64 0) 8 Tryz.underlying39 hj0 hy0 hy1 hy2 rfl (v:=.slice qa k qc) (n:=k) (xs:=intCells l) rfl (HQ.out.ext ((Ext.alloc wr _).trans (Ext.refl _).drew)) (Nat.le_trans hxr.le (by show wr.heap.size≤(wr.alloc _).heap.size;simp)) (.slice (some ⟨wr.heap.size,0,none⟩) 1 1) 1 [.int .i64 (max x y)] rfl (((RowM.new wr [.int .i64 (max x y)] 3 1 rfl).ext (Ext.refl _).drew).src (P:=Tryz.prog) Tryz.underlying39 (by intro u hu;simp at hu;subst hu;rfl)) (by unfold maxLen;omega) (by omega) ?_
  intro v5 w5 hq5 hg5 hat5
  have hx5:Ext w w5:=Below.grown (show Below w.heap.size w _ from hxr.trans ((Ext.alloc wr _).trans (Ext.refl _).drew)) hg5 (Nat.le_trans hxr.le (by show wr.heap.size≤(wr.alloc _).heap.size;simp)) HQ.out.block
  refine hK.out _ _ hx5 (fun hHeld3=>?_)
  clear hK K
  try simp only [Act.put]
  clear hHeld hHeld2
  refine hQ 12 (v:=?_) rfl (y:=.inl ⟨by rfl,?_⟩) (h:=?_)
  rotate_left
  ·(intro w' hSw;(try dsimp only at hSw);have hSS:=Ext.refl w';go_simp;try with_reducible rfl)
  try simp only [Act.put,List.setIfInBounds_toArray]
  refine wpAnyH_done (by kernel_rfl) ?_ _
  have HN:=Lib.hid (show Que w5 w.heap.size 1 v5 (k+1) (intCells (l++[(max x y)])) from by rw [show intCells (l++[(max x y)])=intCells l++[.int .i64 (max x y)] from by simp [intCells]];exact hq5)
  have HL2:=Lib.hid (show l++[(max x y)]=(List.range (k+1)).map fun i=>max (u i) (v i) from by rw [List.range_succ,List.map_append,←HL.out];simp [←HX.out.1,←HX.out.2];first | done | omega)
  clear hq5 hg5 hat5 hHeld3
  go_wp2_with fail
  go_roundg (n - (k+1))
  case rel=>exact ⟨k+1,_,v5,by omega,rfl,by go_num,rfl,hx5,HN.out,HL2.out⟩
  case measure=>omega
set_option maxHeartbeats 2000000 in
theorem meet_any (w : World) (a1 a2 : Option Addr) (g1 o1 g2 o2 n c1 c2 : Nat) (u v : Nat → Int) (h1 : NumAt w n a1 g1 o1 u) (h2 : NumAt w n a2 g2 o2 v) (hn : n ≤ 1000) :
    Calls Tryz.prog 85 #[.slice a1 n c1,.slice a2 n c2] w fun e w'=>Ext w w'∧∃ q,e=.returned q∧Que w' w.heap.size 1 q n (intCells ((List.range n).map fun i=>min (u i) (v i))):=by
 obtain ⟨j0,hj0,hy0,hy1,hy2⟩:=info_parts infoInt
 have H1:=Lib.hid h1
 have H2:=Lib.hid h2
 have hww:Ext w w:=Ext.refl _
 clear h1 h2
 go_enter Tryz.func85,Tryz.ntmps85
 go_wp2_with fail
 go_loopg [5,6] n (fun gg v5 v6 wr=>∃ (k:Nat) (l:List Int) (q:Value),k≤n∧gg=n - k∧v6=.int .i64 k∧v5=q∧Ext w wr∧Que wr w.heap.size 1 q k (intCells l)∧l=(List.range k).map fun i=>min (u i) (v i))
 case atStart=>exact ⟨0,[],_,by omega,rfl,rfl,rfl,hww,Que.nil _ _ _,rfl⟩
 case round=>
  obtain ⟨k,l,q,hk,rfl,rfl,rfl,hxr,hq,hl⟩:=hrel
  obtain ⟨qa,qc,rfl⟩:=hq.slice
  have HQ:=Lib.hid hq
  have HL:=Lib.hid hl
  clear hq hl
  by_cases hlt:k<n
  case neg=>
   obtain rfl:k=n:=by omega
   have HQ2:=Lib.hid (show Que wr w.heap.size 1 (.slice qa k qc) k (intCells ((List.range k).map fun i=>min (u i) (v i))) from by rw [←HL.out];exact HQ.out)
   go_wp2_with fail
   go_ret
   exact ⟨hxr,_,rfl,HQ2.out⟩
  have hlt':(k:Int)<(n:Int):=by omega
  obtain rfl:=H1.out.pa (by omega)
  obtain rfl:=H2.out.pa (by omega)
  have pb1:∀ w',Ext w w'→g1<w'.heap.size:=fun w' x=>Nat.lt_of_lt_of_le (H1.out.pb (by omega)) x.le
  have pb2:∀ w',Ext w w'→g2<w'.heap.size:=fun w' x=>Nat.lt_of_lt_of_le (H2.out.pb (by omega)) x.le
  obtain ⟨x,hx⟩:∃ x,x=u k:=⟨_,rfl⟩
  obtain ⟨y,hy⟩:∃ y,y=v k:=⟨_,rfl⟩
  have p1:∀ w',Ext w w'→w'.cell? ⟨g1,o1+k,none⟩=some (.int .i64 x):=fun w' h=>by rw [hx];exact h.cell (H1.out.c k hlt)
  have q1:∀ w',Ext w w'→w'.cell? ⟨g2,o2+k,none⟩=some (.int .i64 y):=fun w' h=>by rw [hy];exact h.cell (H2.out.c k hlt)
  have HX:=Lib.hid (And.intro hx hy)
  clear hx hy
  go_upto_region 5 with fail
  refine wp_region_held_drew (S:=fun w'=>Ext w w') (by kernel_rfl) hxr.drew (fun hHeld=>?_)
  refine hQ 0 (v:=?_) rfl (y:=.inl ⟨by rfl,?_⟩) (h:=?_)
  rotate_left
  ·(intro w' hSw;(try dsimp only at hSw);have hSS:=Ext.refl w';go_simp;try with_reducible rfl)
  try simp only [Act.put,zA,zB,zC]
  refine hQ 1 (v:=?_) rfl (y:=.inl ⟨by rfl,?_⟩) (h:=?_)
  rotate_left
  ·(intro w' hSw;(try dsimp only at hSw);have hSS:=Ext.refl w';go_simp;try with_reducible rfl)
  try simp only [Act.put,zA,zB,zC]
  refine hQ 2 (v:=?_) rfl (y:=.inl ⟨by rfl,?_⟩) (h:=?_)
  rotate_left
  ·(intro w' hSw;(try dsimp only at hSw);have hSS:=Ext.refl w';go_simp;try with_reducible rfl)
  try simp only [Act.put,zA,zB,zC]
  refine hQ 3 (v:=?_) rfl (y:=.inl ⟨by rfl,?_⟩) (h:=?_)
  rotate_left
  ·(intro w' hSw;(try dsimp only at hSw);have hSS:=Ext.refl w';go_simp;try with_reducible rfl)
  try simp only [Act.put,zA,zB,zC]
  refine hQ 4 (v:=?_) rfl (y:=.inl ⟨by rfl,?_⟩) (h:=?_)
  rotate_left
  ·(intro w' hSw;(try dsimp only at hSw);have hSS:=Ext.refl w';go_simp;try with_reducible rfl)
  try simp only [Act.put,zA,zB,zC]
  refine hQ 5 (v:=?_) rfl (y:=.inl ⟨by rfl,?_⟩) (h:=?_)
  rotate_left
  ·(intro w' hSw;(try dsimp only at hSw);have hSS:=Ext.refl w';go_simp;try with_reducible rfl)
  try simp only [Act.put,zA,zB,zC]
  refine hQ 6 (v:=?_) rfl (y:=.inl ⟨by rfl,?_⟩) (h:=?_)
  rotate_left
  ·(intro w' hSw;(try dsimp only at hSw);have hSS:=Ext.refl w';go_simp;try with_reducible rfl)
  try simp only [Act.put,zA,zB,zC]
  refine hQ 7 (v:=?_) rfl (y:=.inl ⟨by rfl,?_⟩) (h:=?_)
  rotate_left
  ·(intro w' hSw;(try dsimp only at hSw);have hSS:=Ext.refl w';go_simp;try with_reducible rfl)
  try simp only [Act.put,zA,zB,zC]
  refine hQ 8 (v:=?_) rfl (y:=.inl ⟨by rfl,?_⟩) (h:=?_)
  rotate_left
  ·(intro w' hSw;(try dsimp only at hSw);have hSS:=Ext.refl w';go_simp;try with_reducible rfl)
  try simp only [Act.put,zA,zB,zC]
  refine hQ 9 (v:=?_) rfl (y:=.inl ⟨by rfl,?_⟩) (h:=?_)
  rotate_left
  ·(intro w' hSw;(try dsimp only at hSw);have hSS:=Ext.refl w';go_simp;try with_reducible rfl)
  try simp only [Act.put,zA,zB,zC]
  refine wpAnyH_ready (rs:=[10]) (by kernel_rfl) (by simp) ?_
  refine AllReadyH.cons rfl (fun K hK=>?_) AllReadyH.nil
  go_simp
  refine hK.out _ _ (hxr.drew.alloc' _) (fun hHeld2=>?_)
  clear hK K
  try simp only [Act.put]
  refine wpAnyH_ready (rs:=[11]) (by kernel_rfl) (by simp) ?_
  refine AllReadyH.cons rfl (fun K hK=>?_) AllReadyH.nil
  refine step_append_que _ rfl _ _ 39 39 rfl (base:=w.heap.size) (e:=3) (size:=1) j0 (.int .i64 0) 8 Tryz.underlying39 hj0 hy0 hy1 hy2 rfl (v:=.slice qa k qc) (n:=k) (xs:=intCells l) rfl (HQ.out.ext ((Ext.alloc wr _).trans (Ext.refl _).drew)) (Nat.le_trans hxr.le (by show wr.heap.size≤(wr.alloc _).heap.size;simp)) (.slice (some ⟨wr.heap.size,0,none⟩) 1 1) 1 [.int .i64 (min x y)] rfl (((RowM.new wr [.int .i64 (min x y)] 3 1 rfl).ext (Ext.refl _).drew).src (P:=Tryz.prog) Tryz.underlying39 (by intro u hu;simp at hu;subst hu;rfl)) (by unfold maxLen;omega) (by omega) ?_
  intro v5 w5 hq5 hg5 hat5
  have hx5:Ext w w5:=Below.grown (show Below w.heap.size w _ from hxr.trans ((Ext.alloc wr _).trans (Ext.refl _).drew)) hg5 (Nat.le_trans hxr.le (by show wr.heap.size≤(wr.alloc _).heap.size;simp)) HQ.out.block
  refine hK.out _ _ hx5 (fun hHeld3=>?_)
  clear hK K
  try simp only [Act.put]
  clear hHeld hHeld2
  refine hQ 12 (v:=?_) rfl (y:=.inl ⟨by rfl,?_⟩) (h:=?_)
  rotate_left
  ·(intro w' hSw;(try dsimp only at hSw);have hSS:=Ext.refl w';go_simp;try with_reducible rfl)
  try simp only [Act.put,List.setIfInBounds_toArray]
  refine wpAnyH_done (by kernel_rfl) ?_ _
  have HN:=Lib.hid (show Que w5 w.heap.size 1 v5 (k+1) (intCells (l++[(min x y)])) from by rw [show intCells (l++[(min x y)])=intCells l++[.int .i64 (min x y)] from by simp [intCells]];exact hq5)
  have HL2:=Lib.hid (show l++[(min x y)]=(List.range (k+1)).map fun i=>min (u i) (v i) from by rw [List.range_succ,List.map_append,←HL.out];simp [←HX.out.1,←HX.out.2];first | done | omega)
  clear hq5 hg5 hat5 hHeld3
  go_wp2_with fail
  go_roundg (n - (k+1))
  case rel=>exact ⟨k+1,_,v5,by omega,rfl,by go_num,rfl,hx5,HN.out,HL2.out⟩
  case measure=>omega
theorem Que.num {w:World} {base n:Nat} {q:Value} {u:Nat→Nat} (h:Que w base 1 q n (intCells ((List.range n).map fun i=>((u i:Nat):Int)))) (hn:n≤140737488355328):∃ a g o c,q=.slice a n c∧NumAt w n a g o (natV u):=by
 obtain ⟨a,g,o,c,h1,_,h3,h4⟩:=h.cells1
 refine ⟨a,g,o,c,h1,hn,fun h0=>(h3 h0).1,fun h0=>(h3 h0).2.2,fun k hk=>?_⟩
 rw [h4 k hk]
 simp [intCells,hk,natV]
set_option maxHeartbeats 2000000 in
theorem find_any' (w : World) (va : Value) (ba : Nat) (A : List Row) (hA : RowsQ w ba va A) (hl : A.length ≤ 100000) (a2 : Option Addr) (g2 o2 n c2 : Nat) (u : Nat → Nat) (h2 : NumAt w n a2 g2 o2 (natV u)) :
    Calls Tryz.prog 35 #[va,.slice a2 n c2] w fun e w'=>Ext w w'∧∃ z:Int,e=.returned (.int .i64 z)∧((z=-1∧∀ r∈A,r.l≠rowOf n u)∨∃ i,∃ h:i<A.length,z=i∧A[i].l=rowOf n u):=by
 obtain ⟨a,g,o,ca,rfl,_,hpa,hca⟩:=hA.get
 have HA:=Lib.hid hA.2
 have HCA:=Lib.hid hca
 have H2:=Lib.hid h2
 obtain ⟨m,hm⟩:∃ m,m=A.length:=⟨_,rfl⟩
 have HM:=Lib.hid hm
 rw [←hm] at hpa hl
 rw [show Value.slice a A.length ca=.slice a m ca from by rw [hm]]
 have hn2:=h2.hn
 have hww:Ext w w:=Ext.refl _
 have heq:∀ r:Row,EqL r.l.length n (natV (fn r.l)) (natV u)↔r.l=rowOf n u:=fun r=>by
  constructor
  ·rintro ⟨k1,k2⟩
   refine fn_ext (by rw [rowOf_len];exact k1) fun p hp=>?_
   have:=k2 p hp
   simp only [natV] at this
   rw [fn_rowOf (by omega)];omega
  ·intro h
   rw [h,rowOf_len]
   exact ⟨rfl,fun p hp=>by simp only [natV];rw [fn_rowOf hp]⟩
 have HEQ:=Lib.hid heq
 clear hA hca hm h2 heq
 go_enter Tryz.func35,Tryz.ntmps35
 go_wp2_with fail
 go_loopg [5] m (fun gg v5 wr=>∃ k:Nat,k≤m∧gg=m - k∧v5=.int .i64 k∧Ext w wr∧∀ i (h:i<A.length),i<k→A[i].l≠rowOf n u)
 case atStart=>exact ⟨0,by omega,rfl,rfl,hww,fun i _ h=>absurd h (Nat.not_lt_zero _)⟩
 case round=>
  obtain ⟨k,hk,rfl,rfl,hxr,hall⟩:=hrel
  have HL:=Lib.hid hall
  clear hall
  by_cases hlt:k<m
  case neg=>
   obtain rfl:k=m:=by omega
   have HN:=Lib.hid (show ∀ r∈A,r.l≠rowOf n u from fun r hr=>by
    obtain ⟨i,hi,rfl⟩:=List.getElem_of_mem hr
    exact HL.out i hi (by rw [HM.out];exact hi))
   go_wp2_with fail
   go_ret
   exact ⟨hxr,-1,rfl,.inl ⟨rfl,HN.out⟩⟩
  have hlt':(k:Int)<(m:Int):=by omega
  have hkA:k<A.length:=by rw [←HM.out];exact hlt
  obtain ⟨rfl,_,hga⟩:=hpa (by omega)
  have pb1:∀ w',Ext w w'→g<w'.heap.size:=fun w' x=>Nat.lt_of_lt_of_le hga x.le
  obtain ⟨r,hr⟩:∃ r,r=A[k]:=⟨_,rfl⟩
  have p1:∀ w',Ext w w'→w'.cell? ⟨g,o+k,none⟩=some (.slice r.a r.l.length r.c):=fun w' h=>by rw [hr];exact HCA.out k hkA w' h
  obtain ⟨bb,hbb⟩:=exists_bool (r.l=rowOf n u)
  have hcl:=fun W (x:Ext w W)=>bool_fix (rsame_any W r.a a2 r.g r.o g2 o2 r.l.length n r.c c2 (natV (fn r.l)) (natV u) (Row.At.ext (HA.out r (by rw [hr];exact List.getElem_mem hkA)) x) (H2.out.ext x)) (hbb.trans (HEQ.out r).symm)
  have HBB:=Lib.hid (show bb=true↔A[k].l=rowOf n u from by rw [←hr];exact hbb)
  obtain ⟨rn,hrn⟩:∃ z,z=r.l.length:=⟨_,rfl⟩
  rw [←hrn] at p1 hcl
  clear hbb hr hrn hga
  go_wp2_with fail
  go_at_call 78
  refine (hcl wr hxr).mono ?_
  rintro e w2 ⟨rfl,hx2⟩
  have hxw2:=hxr.trans hx2
  clear hcl
  cases bb with
  | true =>
   have HT:=Lib.hid (HBB.out.1 rfl)
   have HK:=Lib.hid hkA
   go_wp2_with fail
   go_ret
   exact ⟨hxw2,k,rfl,.inr ⟨k,HK.out,rfl,HT.out⟩⟩
  | false =>
   have HT:=Lib.hid (show ∀ i (h:i<A.length),i<k+1→A[i].l≠rowOf n u from fun i h1 h2=>by
    by_cases e:i=k
    ·subst e;exact fun h3=>absurd (HBB.out.2 h3) (by simp)
    ·exact HL.out i h1 (by omega))
   go_wp2_with fail
   go_roundg (m - (k+1))
   case rel=>exact ⟨k+1,by omega,rfl,by go_num,hxw2,HT.out⟩
   case measure=>omega
set_option maxHeartbeats 2000000 in
theorem lattice_any (w : World) (va : Value) (ba n : Nat) (A : List Row) (hA : RowsQ w ba va A) (hl : A.length ≤ 100000) (hn : n ≤ 1000) (hlen : ∀ r ∈ A, r.l.length = n)
    (hj:∀ r∈A,∀ s∈A,∃ t∈A,t.l=rowOf n fun p=>max (fn r.l p) (fn s.l p)) (hm:∀ r∈A,∀ s∈A,∃ t∈A,t.l=rowOf n fun p=>min (fn r.l p) (fn s.l p)) :
    Calls Tryz.prog 41 #[va] w fun e w'=>e=.returned (.bool true)∧Ext w w':=by
 have HA:=Lib.hid hA
 have HR:=Lib.hid (fun r (hr:r∈A)=>hA.2 r hr)
 obtain ⟨a,g,o,ca,hva,_,hpa,hca⟩:=hA.get
 have HCA:=Lib.hid hca
 have HJ:=Lib.hid hj
 have HM:=Lib.hid hm
 have HLN:=Lib.hid hlen
 obtain ⟨m,hm0⟩:∃ m,m=A.length:=⟨_,rfl⟩
 have HM0:=Lib.hid hm0
 rw [←hm0] at hpa hva
 have hlm:m≤100000:=by omega
 have hww:Ext w w:=Ext.refl _
 rw [hva]
 clear hA hca hm0 hj hm hlen
 go_enter Tryz.func41,Tryz.ntmps41
 go_wp2_with fail
 go_loopg [3] m (fun gg v3 wr=>∃ i:Nat,i≤m∧gg=m - i∧v3=.int .i64 i∧Ext w wr)
 case atStart=>exact ⟨0,by omega,rfl,rfl,hww⟩
 case round=>
  obtain ⟨i,hi,rfl,rfl,hxi⟩:=hrel
  by_cases hlt:i<m
  case neg=>
   obtain rfl:i=m:=by omega
   go_wp2_with fail
   go_ret
   exact ⟨rfl,hxi⟩
  have hlt':(i:Int)<(m:Int):=by omega
  go_wp2_with fail
  go_loopg [4] i (fun gg v4 wj=>∃ k:Nat,k≤i∧gg=i - k∧v4=.int .i64 k∧Ext w wj)
  case atStart=>exact ⟨0,by omega,rfl,rfl,hxi⟩
  case round=>
   rename World=>wj
   obtain ⟨k,hk,rfl,rfl,hxj⟩:=hrel
   by_cases hlk:k<i
   case neg=>
    obtain rfl:k=i:=by omega
    go_wp2_with fail
    go_roundg (m - (k+1))
    case rel=>exact ⟨k+1,by omega,rfl,by go_num,hxj⟩
    case measure=>omega
   have hlk':(k:Int)<(i:Int):=by omega
   have hkm:k<m:=by omega
   have hkm':(k:Int)<(m:Int):=by omega
   have hiA:i<A.length:=by rw [←HM0.out];exact hlt
   have hkA:k<A.length:=by omega
   obtain ⟨rfl,_,hga⟩:=hpa (by omega)
   have pb1:∀ w',Ext w w'→g<w'.heap.size:=fun w' x=>Nat.lt_of_lt_of_le hga x.le
   obtain ⟨r,hr⟩:∃ r,r=A[i]:=⟨_,rfl⟩
   obtain ⟨s,hs⟩:∃ s,s=A[k]:=⟨_,rfl⟩
   have hrA:r∈A:=by rw [hr];exact List.getElem_mem hiA
   have hsA:s∈A:=by rw [hs];exact List.getElem_mem hkA
   have p1:∀ w',Ext w w'→w'.cell? ⟨g,o+i,none⟩=some (.slice r.a n r.c):=fun w' h=>by rw [←HLN.out r hrA,hr];exact HCA.out i hiA w' h
   have p2:∀ w',Ext w w'→w'.cell? ⟨g,o+k,none⟩=some (.slice s.a n s.c):=fun w' h=>by rw [←HLN.out s hsA,hs];exact HCA.out k hkA w' h
   have hra:∀ W,Ext w W→NumAt W n r.a r.g r.o (natV (fn r.l)):=fun W x=>by have:=Row.At.ext (HR.out r hrA) x;unfold Row.At at this;rw [HLN.out r hrA] at this;exact this
   have hsa:∀ W,Ext w W→NumAt W n s.a s.g s.o (natV (fn s.l)):=fun W x=>by have:=Row.At.ext (HR.out s hsA) x;unfold Row.At at this;rw [HLN.out s hsA] at this;exact this
   have hJ:=fun W (x:Ext w W)=>join_any W r.a s.a r.g r.o s.g s.o n r.c s.c (natV (fn r.l)) (natV (fn s.l)) (hra W x) (hsa W x) hn
   have hM:=fun W (x:Ext w W)=>meet_any W r.a s.a r.g r.o s.g s.o n r.c s.c (natV (fn r.l)) (natV (fn s.l)) (hra W x) (hsa W x) hn
   have HJ1:=Lib.hid (HJ.out r hrA s hsA)
   have HM1:=Lib.hid (HM.out r hrA s hsA)
   clear hr hs hrA hsA hra hsa hga hiA hkA
   go_upto_region 7 with fail
   refine wp_region_held_drew (S:=fun w'=>Ext w w') (by kernel_rfl) hxj.drew (fun hHeld=>?_)
   refine hQ 0 (v:=?_) rfl (y:=.inl ⟨by rfl,?_⟩) (h:=?_)
   rotate_left
   ·(intro w' hSw;(try dsimp only at hSw);have hSS:=Ext.refl w';go_simp;try with_reducible rfl)
   try simp only [Act.put,zA,zB,zC]
   refine hQ 1 (v:=?_) rfl (y:=.inl ⟨by rfl,?_⟩) (h:=?_)
   rotate_left
   ·(intro w' hSw;(try dsimp only at hSw);have hSS:=Ext.refl w';go_simp;try with_reducible rfl)
   try simp only [Act.put,zA,zB,zC]
   refine hQ 2 (v:=?_) rfl (y:=.inl ⟨by rfl,?_⟩) (h:=?_)
   rotate_left
   ·(intro w' hSw;(try dsimp only at hSw);have hSS:=Ext.refl w';go_simp;try with_reducible rfl)
   try simp only [Act.put,zA,zB,zC]
   refine hQ 3 (v:=?_) rfl (y:=.inl ⟨by rfl,?_⟩) (h:=?_)
   rotate_left
   ·(intro w' hSw;(try dsimp only at hSw);have hSS:=Ext.refl w';go_simp;try with_reducible rfl)
   try simp only [Act.put,zA,zB,zC]
   refine hQ 4 (v:=?_) rfl (y:=.inl ⟨by rfl,?_⟩) (h:=?_)
   rotate_left
   ·(intro w' hSw;(try dsimp only at hSw);have hSS:=Ext.refl w';go_simp;try with_reducible rfl)
   try simp only [Act.put,zA,zB,zC]
   refine hQ 5 (v:=?_) rfl (y:=.inl ⟨by rfl,?_⟩) (h:=?_)
   rotate_left
   ·(intro w' hSw;(try dsimp only at hSw);have hSS:=Ext.refl w';go_simp;try with_reducible rfl)
   try simp only [Act.put,zA,zB,zC]
   refine hQ 6 (v:=?_) rfl (y:=.inl ⟨by rfl,?_⟩) (h:=?_)
   rotate_left
   ·(intro w' hSw;(try dsimp only at hSw);have hSS:=Ext.refl w';go_simp;try with_reducible rfl)
   try simp only [Act.put,zA,zB,zC]
   refine hQ 7 (v:=?_) rfl (y:=.inl ⟨by rfl,?_⟩) (h:=?_)
   rotate_left
   ·(intro w' hSw;(try dsimp only at hSw);have hSS:=Ext.refl w';go_simp;try with_reducible rfl)
   try simp only [Act.put,zA,zB,zC]
   refine hQ 8 (v:=?_) rfl (y:=.inl ⟨by rfl,?_⟩) (h:=?_)
   rotate_left
   ·(intro w' hSw;(try dsimp only at hSw);have hSS:=Ext.refl w';go_simp;try with_reducible rfl)
   try simp only [Act.put,zA,zB,zC]
   have hjd:=hxj.drew
   refine wpAnyH_ready (rs:=[9]) (by kernel_rfl) (by simp) ?_
   refine AllReadyH.cons rfl (fun K hK=>?_) AllReadyH.nil
   go_simp
   go_at_call 84
   refine (hJ _ (by assumption)).mono ?_
   rintro e w3 ⟨hx3,q,rfl,hq⟩
   have hxw3:Ext w w3:=Ext.trans (by assumption) hx3
   have hmp:((List.range n).map fun i=>max (natV (fn r.l) i) (natV (fn s.l) i))=(List.range n).map fun i=>((max (fn r.l i) (fn s.l i):Nat):Int):=List.map_congr_left fun i _=>by simp only [natV];omega
   rw [hmp] at hq
   obtain ⟨qa,qg,qo,qc,rfl,hnum⟩:=hq.num (by omega)
   have hfd:=find_any' w3 va ba A (HA.out.ext hxw3) hl qa qg qo n qc (fun i=>max (fn r.l i) (fn s.l i)) hnum
   rw [hva] at hfd
   have HFD:=Lib.hid hfd
   clear hfd hq hmp hnum
   refine hK.out _ _ hxw3 (fun hHeld2=>?_)
   clear hK K
   try simp only [Act.put]
   refine wpAnyH_ready (rs:=[10]) (by kernel_rfl) (by simp) ?_
   refine AllReadyH.cons rfl (fun K hK=>?_) AllReadyH.nil
   go_simp
   go_at_call 35
   refine HFD.out.mono ?_
   rintro e w4 ⟨hx4,z,rfl,hz⟩
   have hz0:decide (z<0)=false:=by
    rcases hz with ⟨_,hz⟩ | ⟨i,_,rfl,_⟩
    ·obtain ⟨t,ht,h1⟩:=HJ1.out
     exact absurd h1 (hz t ht)
    ·exact decide_eq_false (by omega)
   have hxw4:Ext w w4:=hxw3.trans hx4
   clear hz HFD
   refine hK.out _ _ hxw4 (fun hHeld3=>?_)
   clear hK K
   try simp only [Act.put]
   clear hHeld hHeld2
   refine hQ 11 (v:=?_) rfl (y:=.inl ⟨by rfl,?_⟩) (h:=?_)
   rotate_left
   ·(intro w' hSw;(try dsimp only at hSw);have hSS:=Ext.refl w';go_simp;try with_reducible rfl)
   try simp only [Act.put,zA,zB,zC]
   refine hQ 12 (v:=?_) rfl (y:=.inl ⟨by rfl,?_⟩) (h:=?_)
   rotate_left
   ·(intro w' hSw;(try dsimp only at hSw);have hSS:=Ext.refl w';go_simp;try with_reducible rfl)
   try simp only [Act.put,zA,zB,zC]
   refine hQ 13 (v:=?_) rfl (y:=.inl ⟨by rfl,?_⟩) (h:=?_)
   rotate_left
   ·(intro w' hSw;(try dsimp only at hSw);have hSS:=Ext.refl w';go_simp;try with_reducible rfl)
   try simp only [Act.put,zA,zB,zC]
   refine hQ 14 (v:=?_) rfl (y:=.inl ⟨by rfl,?_⟩) (h:=?_)
   rotate_left
   ·(intro w' hSw;(try dsimp only at hSw);have hSS:=Ext.refl w';go_simp;try with_reducible rfl)
   try simp only [Act.put,zA,zB,zC]
   refine hQ 15 (v:=?_) rfl (y:=.inl ⟨by rfl,?_⟩) (h:=?_)
   rotate_left
   ·(intro w' hSw;(try dsimp only at hSw);have hSS:=Ext.refl w';go_simp;try with_reducible rfl)
   try simp only [Act.put,zA,zB,zC]
   refine hQ 16 (v:=?_) rfl (y:=.inl ⟨by rfl,?_⟩) (h:=?_)
   rotate_left
   ·(intro w' hSw;(try dsimp only at hSw);have hSS:=Ext.refl w';go_simp;try with_reducible rfl)
   try simp only [Act.put,zA,zB,zC]
   refine hQ 17 (v:=?_) rfl (y:=.inl ⟨by rfl,?_⟩) (h:=?_)
   rotate_left
   ·(intro w' hSw;(try dsimp only at hSw);have hSS:=Ext.refl w';go_simp;try with_reducible rfl)
   try simp only [Act.put,zA,zB,zC]
   refine hQ 18 (v:=?_) rfl (y:=.inl ⟨by rfl,?_⟩) (h:=?_)
   rotate_left
   ·(intro w' hSw;(try dsimp only at hSw);have hSS:=Ext.refl w';go_simp;try with_reducible rfl)
   try simp only [Act.put,zA,zB,zC]
   refine hQ 19 (v:=?_) rfl (y:=.inl ⟨by rfl,?_⟩) (h:=?_)
   rotate_left
   ·(intro w' hSw;(try dsimp only at hSw);have hSS:=Ext.refl w';go_simp;try with_reducible rfl)
   try simp only [Act.put,zA,zB,zC]
   refine hQ 20 (v:=?_) rfl (y:=.inl ⟨by rfl,?_⟩) (h:=?_)
   rotate_left
   ·(intro w' hSw;(try dsimp only at hSw);have hSS:=Ext.refl w';go_simp;try with_reducible rfl)
   try simp only [Act.put,zA,zB,zC]
   refine hQ 21 (v:=?_) rfl (y:=.inl ⟨by rfl,?_⟩) (h:=?_)
   rotate_left
   ·(intro w' hSw;(try dsimp only at hSw);have hSS:=Ext.refl w';go_simp;try with_reducible rfl)
   try simp only [Act.put,zA,zB,zC]
   clear hxw3 hx3 hx4 hjd hxj hxi
   refine wpAnyH_ready (rs:=[22]) (by kernel_rfl) (by simp) ?_
   refine AllReadyH.cons rfl (fun K hK=>?_) AllReadyH.nil
   go_simp
   go_at_call 85
   refine (hM _ (by assumption)).mono ?_
   rintro e w3 ⟨hx3,q,rfl,hq⟩
   have hxw3:Ext w w3:=Ext.trans (by assumption) hx3
   have hmp:((List.range n).map fun i=>min (natV (fn r.l) i) (natV (fn s.l) i))=(List.range n).map fun i=>((min (fn r.l i) (fn s.l i):Nat):Int):=List.map_congr_left fun i _=>by simp only [natV];omega
   rw [hmp] at hq
   obtain ⟨qa,qg,qo,qc,rfl,hnum⟩:=hq.num (by omega)
   have hfd:=find_any' w3 va ba A (HA.out.ext hxw3) hl qa qg qo n qc (fun i=>min (fn r.l i) (fn s.l i)) hnum
   rw [hva] at hfd
   have HFD:=Lib.hid hfd
   clear hfd hq hmp hnum
   refine hK.out _ _ hxw3 (fun hHeld2=>?_)
   clear hK K
   try simp only [Act.put]
   refine wpAnyH_ready (rs:=[23]) (by kernel_rfl) (by simp) ?_
   refine AllReadyH.cons rfl (fun K hK=>?_) AllReadyH.nil
   go_simp
   go_at_call 35
   refine HFD.out.mono ?_
   rintro e w4 ⟨hx4,z,rfl,hz⟩
   have hz0:decide (z<0)=false:=by
    rcases hz with ⟨_,hz⟩ | ⟨i,_,rfl,_⟩
    ·obtain ⟨t,ht,h1⟩:=HM1.out
     exact absurd h1 (hz t ht)
    ·exact decide_eq_false (by omega)
   have hxw4:Ext w w4:=hxw3.trans hx4
   clear hz HFD
   refine hK.out _ _ hxw4 (fun hHeld3=>?_)
   clear hK K
   try simp only [Act.put]
   clear hHeld3 hHeld2
   refine hQ 24 (v:=?_) rfl (y:=.inl ⟨by rfl,?_⟩) (h:=?_)
   rotate_left
   ·(intro w' hSw;(try dsimp only at hSw);have hSS:=Ext.refl w';go_simp;try with_reducible rfl)
   try simp only [Act.put,zA,zB,zC]
   refine hQ 25 (v:=?_) rfl (y:=.inl ⟨by rfl,?_⟩) (h:=?_)
   rotate_left
   ·(intro w' hSw;(try dsimp only at hSw);have hSS:=Ext.refl w';go_simp;try with_reducible rfl)
   try simp only [Act.put,zA,zB,zC]
   refine wpAnyH_done (by kernel_rfl) ?_ _
   have hxf:Ext w w4:=by assumption
   go_wp2_with fail
   go_roundg (i - (k+1))
   case rel=>exact ⟨k+1,by omega,rfl,by go_num,hxf⟩
   case measure=>omega
end Go.Proofs.YtkhgpockmaghjaaGreat

namespace Go.Proofs.YtkhgpockmaghjaaGreat
open Go.RowKit Go.Shelf
attribute [local go_sem] Oper.semAt_some
end Go.Proofs.YtkhgpockmaghjaaGreat
