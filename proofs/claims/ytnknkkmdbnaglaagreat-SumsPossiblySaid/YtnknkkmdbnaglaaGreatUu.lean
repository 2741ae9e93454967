/- Contracts and laws in plain Lean for SPos: group Uu. -/
import Derived.Test.YtnknkkmdbnaglaaGreatUt
import Derived.Test.YtnknkkmdbnaglaaGreatKa
import Derived.Test.YtnknkkmdbnaglaaGreatUd
import Derived.Test.YtnknkkmdbnaglaaGreatUs
import Derived.Deep.AppendLies
namespace Go.Proofs.YtnknkkmdbnaglaaGreat
open Go.RowKit Go.Shelf
structure NwI (w1:World) (b4:Nat) (n2:Int) (L:List Edg) (ev:Value) (wr:World):Prop where
 h4:Hold wr b4 #[.int .i64 n2,ev]
 own:wr.ownsRow (b4+1) 57 3 ev L.length (edCells L)
 hx:Ext w1 wr
 lo:w1.heap.size≤b4
theorem NwI.ext {w1:World} {b4:Nat} {n2:Int} {L:List Edg} {ev:Value} {wr w':World} (h:NwI w1 b4 n2 L ev wr) (x:Ext wr w'):NwI w1 b4 n2 L ev w':=⟨h.h4.ext x,own_ext h.own x,h.hx.trans x,h.lo⟩
theorem NwI.push {w1 : World} {b4 : Nat} {n2 : Int} {L : List Edg} {ev v6 : Value} {wr w5 w6 : World} {t : Edg} (h : NwI w1 b4 n2 L ev wr) (x : Ext wr w5) (hown : w6.ownsRow (b4 + 1) 57 3 v6 (L.length + 1) (edCells L ++ [.int .i64 (t.1 : Int), .int .i64 (t.2.1 : Int), .int .i64 t.2.2])) (hg : w5.grownBy w6 ev.ownBlock) :
    Hold w6 b4 #[.int .i64 n2,ev]∧NwI w1 b4 n2 (L++[t]) v6 (w6.setCell ⟨b4,1,none⟩ v6):=by
 have h5:=h.ext x
 have hlt:=h5.h4.lt
 have hb:w6.heap[b4]?=w5.heap[b4]?:=hg.block b4 hlt (fun e=>by have:=(own_lt h5.own b4 e.symm).1;omega)
 have hH:Hold w6 b4 #[.int .i64 n2,ev]:=by obtain ⟨ty,hty⟩:=h5.h4;exact ⟨ty,hb.trans hty⟩
 refine ⟨hH,hH.set 1 v6,?_,?_,h.lo⟩
 ·rw [edCells_snoc,List.length_append];exact own_same hown fun g e=>Below.heap_setCell _ _ _ _ (by have:=(own_lt hown g e).1;show g≠b4;omega)
 ·have h6:Ext w1 w6:=h5.hx.below.grown hg h5.hx.le (fun g e=>by have:=(own_lt h5.own g e).1;have:=h.lo;omega)
  exact h6.setCell h.lo _
theorem NwI.apart {b4 fg : Nat} {ev v6 : Value} {wr w5 w6 : World} (x : Ext wr w5) (hg : w5.grownBy w6 ev.ownBlock) (hf : fg < wr.heap.size) (h4 : fg ≠ b4) (he : ev.ownBlock ≠ some fg) :
    (w6.setCell ⟨b4,1,none⟩ v6).heap[fg]?=wr.heap[fg]?∧fg<(w6.setCell ⟨b4,1,none⟩ v6).heap.size:=by
 refine ⟨?_,?_⟩
 ·rw [Below.heap_setCell _ _ _ _ (show fg≠b4 from h4),hg.block fg (Nat.lt_of_lt_of_le hf x.le) (fun e=>he e.symm)]
  exact x.block fg hf
 ·rw [World.size_setCell];exact Nat.lt_of_lt_of_le hf (Nat.le_trans x.le hg.size)
theorem edge_one (a b c:Int):∀ u∈[Value.int .i64 a,.int .i64 b,.int .i64 c],u.oneCell'=true:=by
 intro u hu
 simp at hu
 rcases hu with rfl | rfl | rfl <;> rfl
def ndE (l:List (Nat × Nat)) (c:Int):List Edg:=l.map fun x=>(x.1,x.2,c)
theorem ndE_append (l m:List (Nat × Nat)) (c:Int):ndE (l++m) c=ndE l c++ndE m c:=by simp [ndE]
def firstL (en:Nat→Nat) (k:Nat):List Int:=(List.range k).map fun p=>((tott en p:Nat):Int)
theorem firstL_succ (en:Nat→Nat) (k:Nat):firstL en (k+1)=firstL en k++[((tott en k:Nat):Int)]:=by simp [firstL,List.range_succ]
theorem firstC_succ (en:Nat→Nat) (k:Nat):intCells (firstL en (k+1))=intCells (firstL en k)++[.int .i64 ((tott en k:Nat):Int)]:=by simp [firstL_succ,intCells]
theorem firstL_get (en:Nat→Nat) {k p:Nat} (h:p<k):(firstL en k)[p]?=some ((tott en p:Nat):Int):=by simp [firstL,h]
theorem Tr.needL_step (T:Tr) {k i:Nat} (hk:k<T.n) (hi:i<T.en k):T.needL (T.evsTo k (i+1))=T.needL (T.evsTo k i)++((if 0<i then [(T.num (k,i),T.num (k,i - 1))] else [])++if T.kind k i=3 then [(T.num (k,i),T.num (T.sndN (k,i)))] else []):=by
 rw [Tr.evsTo_succ _ _ _ hk hi,Tr.needL_snoc]
 congr 1
 unfold Tr.bk
 rw [List.map_append]
 congr 1
 ·split <;> rfl
 ·split <;> rfl
theorem heap_lt {w w':World} {g:Nat} (h:w.heap[g]?=w'.heap[g]?) (hl:g<w'.heap.size):g<w.heap.size:=by
 refine Nat.lt_of_not_le fun hle=>?_
 rw [Array.getElem?_eq_none hle,Array.getElem?_eq_getElem hl] at h;cases h
theorem Hold.blk {w w':World} {b:Nat} {c:Array Value} (h:Hold w b c) (e:w'.heap[b]?=w.heap[b]?):Hold w' b c:=by obtain ⟨t,ht⟩:=h;exact ⟨t,e.trans ht⟩
def SnetPost (S:SumM) (W:World) (e:Ending) (w':World):Prop:=Ext W w'∧∃ v,e=.returned (.agg #[.int .i64 ((S.m:Int)+2),v])∧EdOwn w' W.heap.size v (closureNet S.m S.w S.T.toTr.needs)
theorem snet_results (tmps : Array Value) (W : World) (b : Nat) (x y : Value) (t2 : tmps[2]? = some (.pointer (some ⟨b, 0, none⟩))) (c : W.cell? ⟨b, 0, none⟩ = some x) (c' : W.cell? ⟨b, 1, none⟩ = some y) :
    (results Tryz.f88 tmps).run Tryz.prog W=.ok (.agg #[x,y]) W:=by
 simp [results,go_sem,t2,c,c']
theorem setq1 {w:World} {p:Addr} {v:Value} {G:World→Prop} (h:∀ w7,w7=w.setCell p v→G w7):G (w.setCell p v):=h _ rfl
set_option maxRecDepth 100000 in
set_option maxHeartbeats 8000000 in
theorem snet_any (W:World) (S:SumM) (hS:S.At W):Calls Tryz.prog 88 #[S.val] W (SnetPost S W):=by
 obtain ⟨i1,hi1,hz0,hz1,hz2⟩:=info_parts infoEdge
 obtain ⟨j0,hj0,hy0,hy1,hy2⟩:=info_parts infoInt
 have HT:=Lib.hid hS.T
 have HV:=Lib.hid hS.V
 have HOK:=Lib.hid hS.ok
 have HCO:=Lib.hid (fun k (hk:k<S.m) w' (x:Ext W w')=>x.cell (hS.c k hk))
 have HPB:=Lib.hid (fun (h:0<S.m) w' (x:Ext W w')=>Nat.lt_of_lt_of_le (hS.pb h) x.le)
 have HPA:=Lib.hid hS.pa
 obtain ⟨m,hm⟩:∃ m,m=S.m:=⟨_,rfl⟩
 have HM:=Lib.hid hm
 have hm5:m≤510:=by rw [hm];exact hS.ok.few
 unfold SnetPost
 obtain ⟨T,tv,wa,wg,wo,wc,w,b⟩:=S
 simp only [SumM.val] at *
 rw [←hm] at HOK HPA HPB HCO ⊢
 have HWP:=Lib.hid (show ∀ k,k≤m→0≤wpos w k∧wpos w k≤562949953421312 from fun k hk=>⟨wpos_nonneg w k,by
  have h1:=wpos_abs w k
  have h2:=isum_mono (g:=fun i=>iabs (w i)) (fun i=>iabs_nonneg _) hk
  have h3:=HOK.out.mass
  have h4:=iabs_nonneg b
  omega⟩)
 clear hS hm
 have hn8:=HV.out.n8
 have hn1:=HV.out.n1
 obtain ⟨ta,hta⟩:∃ z,z=T.a:=⟨_,rfl⟩
 have HTA:=Lib.hid hta
 obtain rfl:ta=some ⟨T.b,T.off,none⟩:=by rw [hta];exact HT.out.P.pa (by omega)
 simp only [TM.sl]
 rw [←hta]
 clear hta
 go_enter Tryz.func88,Tryz.ntmps88
 go_upto_region 1 with fail
 refine boxed2 (w:=W) (G:=fun x=>Code.wp _ _ _ _ x) ?_
 intro w1 hx1 hs1 ⟨l0,c0,_,k0⟩ ⟨l1,c1,f1,k1⟩
 have hx11:Ext w1 w1:=Ext.refl _
 have hw2:IntKind.i64.wrap ((m:Int)+2)=(m:Int)+2:=IntWalk.i64_in _ (by omega)
 have HS1:=Lib.hid hs1
 clear hs1
 go_upto_region 3 with fail
 refine boxed1 (w:=w1) (G:=fun x=>Code.wp _ _ _ _ x) ?_
 intro w2 hx2 hs2 ⟨_,_,_,k2⟩
 have hx22:Ext w2 w2:=Ext.refl _
 have hx12:Ext w1 w2:=hx2
 obtain ⟨b4,hb4⟩:∃ z,z=w1.heap.size:=⟨_,rfl⟩
 rw [←hb4] at k2 ⊢
 have HB:=Lib.hid hb4
 have HN2:=Lib.hid (NwI.mk (w1:=w1) (b4:=b4) (n2:=(m:Int)+2) (L:=[]) (ev:=.slice none 0 0) (wr:=w2) k2 (World.ownsRow_nil _ _ _ _) hx2 (by omega))
 clear hs2 hw2 hb4 k2
 go_wp2_with fail
 go_loopg [5,27] m (fun gg v5 v27 wr=>∃ (k:Nat) (ev:Value),k≤m∧gg=m - k∧v27=.int .i64 k∧v5=.int .i64 (1+wpos w k)∧NwI w1 b4 ((m:Int)+2) (edgesW m w k) ev wr)
 case atStart=>exact ⟨0,_,by omega,rfl,rfl,rfl,HN2.out⟩
 case round=>
  obtain ⟨k,ev,hk,rfl,rfl,rfl,hI⟩:=hrel
  have hx1r:=hI.hx
  have hxr:=hx1.trans hx1r
  obtain ⟨a6,c6,rfl⟩:=own_form hI.own
  obtain ⟨ln,hln⟩:∃ z,z=(edgesW m w k).length:=⟨_,rfl⟩
  have HLN:=Lib.hid hln
  have hlm:ln≤510:=by rw [hln];have:=edgesW_len m w k;omega
  rw [←hln] at hI
  have HI:=Lib.hid hI
  obtain ⟨L,hL⟩:∃ L,L=edgesW m w k:=⟨_,rfl⟩
  rw [←hL] at HI HLN
  have HL:=Lib.hid hL
  have HO:=Lib.hid (show wr.ownsRow (b4+1) 57 3 (.slice a6 ln c6) ln (edCells L) from by have:=HI.out.own;rw [←HLN.out] at this;exact this)
  have HB4:=Lib.hid (show b4<wr.heap.size from hI.h4.lt)
  obtain ⟨l4,c4,f4,_⟩:=hI.h4.box
  have hrr:Ext wr wr:=Ext.refl _
  have hwp:=HWP.out k hk
  clear hI hln hL
  by_cases hlt:k<m
  ·have hlt':(k:Int)<(m:Int):=by omega
   obtain rfl:=HPA.out (by omega)
   have hwc:=HCO.out k hlt
   have hwb:=HPB.out (by omega)
   have hwk:=HOK.out.w hlt
   have hwp1:=HWP.out (k+1) hlt
   have hsu:wpos w (k+1)=wpos w k+if 0<w k then w k else 0:=rfl
   have hes:edgesW m w (k+1)=edgesW m w k++(if 0<w k then [(m,k,w k)] else if w k<0 then [(k,m+1,- w k)] else []):=rfl
   have HSU:=Lib.hid hsu
   have HES:=Lib.hid hes
   obtain ⟨wk,hwk'⟩:∃ z,z=w k:=⟨_,rfl⟩
   rw [←hwk'] at HSU HES hwk hwc
   rw [HSU.out] at hwp1
   generalize wpos w k=u at hwp hwp1 HSU ⊢
   clear hsu hes hwk'
   by_cases hpos:0<wk
   ·have d1:decide (0<wk)=true:=decide_eq_true hpos
    rw [if_pos hpos] at hwp1
    have hw3:IntKind.i64.wrap (1+u+wk)=1+u+wk:=IntWalk.i64_in _ (by omega)
    have HE2:=Lib.hid (show edgesW m w (k+1)=L++[(m,k,wk)] from by rw [HES.out,if_pos hpos,HL.out])
    go_upto_region 9 with (
     at_builtin
     refine wpList_append_own _ rfl _ _ 42 rfl (b4+1) 57 i1 (.agg #[.int .i64 0,.int .i64 0,.int .i64 0]) 3 24 Tryz.underlying42 hi1 hz0 hz1 hz2 rfl (by decide) (.slice a6 ln c6) ln (edCells L) rfl (by exact own_ext HO.out (Ext.alloc _ _)) ⟨wr.heap.size,0,none⟩ 1 1 [.int .i64 ((m:Int)),.int .i64 ((k:Int)),.int .i64 (wk)] rfl rfl (by exact news_ok wr [_,_,_] _) (edge_one _ _ _) (by unfold maxLen;omega) (by omega) (by rw [World.size_alloc];have:=HB4.out;omega) ?_
     rintro v6 w6 hown6 hg6 -
     obtain ⟨a9,c9,rfl⟩:=own_form hown6
     have HP:=Lib.hid (NwI.push (t:=(m,k,wk)) HI.out (Ext.alloc _ _) (by rw [←HLN.out];exact hown6) hg6)
     have HG6:=Lib.hid hg6
     clear hown6 hg6
     obtain ⟨l6,c6',f6,_⟩:=HP.out.1.box
     have hx66:Ext w6 w6:=Ext.refl _
     skip)
    refine setq1 (G:=fun x=>Code.wp _ _ _ _ x) ?_
    intro w7 hw7
    have HI7:=Lib.hid (show NwI w1 b4 ((m:Int)+2) (edgesW m w (k+1)) (.slice a9 (ln+1) c9) w7 from by rw [hw7,HE2.out];exact HP.out.2)
    clear hw7 l6 c6' f6 hx66
    go_wp2_with fail
    go_roundg (m - (k+1))
    case rel=>exact ⟨k+1,_,by omega,rfl,by go_num,congrArg (Value.int .i64) (by rw [HSU.out,if_pos hpos];omega),HI7.out⟩
    case measure=>omega
   ·have d1:decide (0<wk)=false:=decide_eq_false hpos
    have HNP:=Lib.hid hpos
    clear hpos
    by_cases hneg:wk<0
    ·have d2:decide (wk<0)=true:=decide_eq_true hneg
     have hw3:IntKind.i64.wrap ((m:Int)+1)=((m+1:Nat):Int):=by rw [IntWalk.i64_in _ (by omega)];omega
     have hw4:IntKind.i64.wrap (- wk)=- wk:=IntWalk.i64_in _ (by omega)
     have HE2:=Lib.hid (show edgesW m w (k+1)=L++[(k,m+1,- wk)] from by rw [HES.out,if_neg HNP.out,if_pos hneg,HL.out])
     go_upto_region 12 with (
      at_builtin
      refine wpList_append_own _ rfl _ _ 42 rfl (b4+1) 57 i1 (.agg #[.int .i64 0,.int .i64 0,.int .i64 0]) 3 24 Tryz.underlying42 hi1 hz0 hz1 hz2 rfl (by decide) (.slice a6 ln c6) ln (edCells L) rfl (by exact own_ext HO.out (Ext.alloc _ _)) ⟨wr.heap.size,0,none⟩ 1 1 [.int .i64 ((k:Int)),.int .i64 (((m+1:Nat):Int)),.int .i64 ((- wk))] rfl rfl (by exact news_ok wr [_,_,_] _) (edge_one _ _ _) (by unfold maxLen;omega) (by omega) (by rw [World.size_alloc];have:=HB4.out;omega) ?_
      rintro v6 w6 hown6 hg6 -
      obtain ⟨a9,c9,rfl⟩:=own_form hown6
      have HP:=Lib.hid (NwI.push (t:=(k,(m+1),(- wk))) HI.out (Ext.alloc _ _) (by rw [←HLN.out];exact hown6) hg6)
      have HG6:=Lib.hid hg6
      clear hown6 hg6
      obtain ⟨l6,c6',f6,_⟩:=HP.out.1.box
      have hx66:Ext w6 w6:=Ext.refl _
      skip)
     refine setq1 (G:=fun x=>Code.wp _ _ _ _ x) ?_
     intro w7 hw7
     have HI7:=Lib.hid (show NwI w1 b4 ((m:Int)+2) (edgesW m w (k+1)) (.slice a9 (ln+1) c9) w7 from by rw [hw7,HE2.out];exact HP.out.2)
     clear hw7 l6 c6' f6 hx66
     go_wp2_with fail
     go_roundg (m - (k+1))
     case rel=>exact ⟨k+1,_,by omega,rfl,by go_num,congrArg (Value.int .i64) (by rw [HSU.out,if_neg (by have:=HNP.out;omega)];omega),HI7.out⟩
     case measure=>omega
    ·have d2:decide (wk<0)=false:=decide_eq_false hneg
     have HE2:=Lib.hid (show edgesW m w (k+1)=L from by rw [HES.out,if_neg HNP.out,if_neg hneg,List.append_nil,HL.out])
     clear hneg
     go_wp2_with fail
     go_roundg (m - (k+1))
     case rel=>exact ⟨k+1,.slice a6 ln c6,by omega,rfl,by go_num,congrArg (Value.int .i64) (by rw [HSU.out,if_neg (by have:=HNP.out;omega)];omega),by rw [HE2.out];exact HI.out⟩
     case measure=>omega
  ·obtain rfl:m=k:=by omega
   obtain ⟨mo,hmo⟩:∃ z,z=1+wpos w m:=⟨_,rfl⟩
   rw [←hmo]
   have HMO:=Lib.hid (show mo=wpos w m+1 from by omega)
   have hmo2:1≤mo∧mo≤562949953421313:=by omega
   have HXR:=Lib.hid hxr
   obtain rfl:L=edgesW m w m:=HL.out
   have HI5:=Lib.hid HI.out
   have HW5:=Lib.hid (show w1.heap.size≤wr.heap.size from hx1r.le)
   have HX1:=Lib.hid hx1r
   clear hmo hwp HL HO hlt l4 c4 f4
   rename World=>w5
   go_wp2_with fail
   go_loopg [8,9,66] T.n (fun gg v8 v9 v66 wx=>∃ k:Nat,k≤T.n∧gg=T.n - k∧v66=.int .i64 k∧v9=.int .i64 (tott T.en k:Nat)∧wx.ownsRow w5.heap.size 3 1 v8 k (intCells (firstL T.en k))∧Ext w5 wx)
   case atStart=>exact ⟨0,by omega,rfl,rfl,rfl,World.ownsRow_nil _ _ _ _,Ext.refl _⟩
   case round=>
    obtain ⟨k,hk,rfl,rfl,rfl,hq,hxw⟩:=hrel
    obtain ⟨a8,c8,rfl⟩:=own_form hq
    have HQ:=Lib.hid hq
    have hx0w:=HXR.out.trans hxw
    have hx1w:=HX1.out.trans hxw
    have htk:tott T.en k≤512:=by rw [tott_tot];have:=tot_small (f:=T.en) (c:=64) (n:=k) (fun j hj=>HV.out.en64 (by omega));omega
    clear hq
    by_cases hlt:k<T.n
    ·have hlt':(k:Int)<(T.n:Int):=by omega
     have hen:=HV.out.en64 hlt
     have pb:=HT.out.P.pb (by omega)
     have p0:∀ w',Ext W w'→w'.cell? ⟨T.b,T.off+k*3,none⟩=some (.string (T.name k)):=fun w' h=>HT.out.P.p0 w' h k hlt
     have p1:∀ w',Ext W w'→w'.cell? ⟨T.b,T.off+k*3+1,none⟩=some (.slice (T.va k) (T.vn k) (T.vc k)):=fun w' h=>HT.out.P.p1 w' h k hlt
     have p2:∀ w',Ext W w'→w'.cell? ⟨T.b,T.off+k*3+2,none⟩=some (.slice (T.ea k) (T.en k) (T.ec k)):=fun w' h=>HT.out.P.p2 w' h k hlt
     have hww:Ext wr wr:=Ext.refl _
     go_upto_region 18 with fail
     refine boxed1 (w:=wr) (G:=fun x=>Code.wp _ _ _ _ x) ?_
     intro w6 hx6 hs6 ⟨l6,c6',f6,k6⟩
     have hx66:Ext w6 w6:=Ext.refl _
     have hxw6:=hxw.trans hx6
     obtain ⟨fk,hfk⟩:∃ z,z=tott T.en k:=⟨_,rfl⟩
     rw [←hfk] at htk ⊢
     have HFK:=Lib.hid hfk
     have HQ6:=Lib.hid (own_ext HQ.out hx6)
     have HQL:=Lib.hid (fun g e=>(own_lt HQ.out g e).2)
     have hK6:=Lib.hid k6
     clear hs6 hfk k6
     go_upto_region 19 with (at_builtin;refine wpList_append_own _ rfl _ _ 28 rfl w5.heap.size 3 j0 (.int .i64 0) 1 8 Tryz.underlying28 hj0 hy0 hy1 hy2 rfl (by decide) (.slice a8 k c8) k (intCells (firstL T.en k)) rfl (by exact own_ext HQ6.out (Ext.alloc _ _)) ⟨w6.heap.size,0,none⟩ 1 1 [.int .i64 (fk:Int)] rfl rfl (by exact news_ok w6 [_] _) (one_int _) (by unfold maxLen;omega) (by omega) (by rw [World.size_alloc];have:=hxw6.le;omega) ?_;rintro v7 w7 hq7 hg7 -;obtain ⟨a9,c9,rfl⟩:=own_form hq7)
     have hx57:Ext w5 w7:=(hxw6.alloc' _).below.grown hg7 (by rw [World.size_alloc];have:=hxw6.le;omega) (fun g e=>(own_lt HQ6.out g e).1)
     have hk7:Hold w7 wr.heap.size #[.string (T.name k),.slice (T.va k) (T.vn k) (T.vc k),.slice (T.ea k) (T.en k) (T.ec k)]:=by
      obtain ⟨ty,hty⟩:=Hold.ext hK6.out (Ext.alloc w6 _)
      exact ⟨ty,(hg7.block wr.heap.size (Array.getElem?_eq_some_iff.1 hty).1 (fun e=>by have:=HQL.out _ e.symm;omega)).trans hty⟩
     have HQ7:=Lib.hid (show w7.ownsRow w5.heap.size 3 1 (.slice a9 (k+1) c9) (k+1) (intCells (firstL T.en (k+1))) from by rw [firstC_succ,←HFK.out];exact hq7)
     have hw5:IntKind.i64.wrap ((fk:Int)+(T.en k:Int))=((fk+T.en k:Nat):Int):=by rw [IntWalk.i64_in _ (by omega)];omega
     clear l6 c6' f6 hq7 hg7 hx66 hxw6 hx6
     obtain ⟨l7,c7,f7,_⟩:=hk7.box
     have hx77:Ext w7 w7:=Ext.refl _
     go_wp2_with fail
     go_roundg (T.n - (k+1))
     case rel=>exact ⟨k+1,by omega,rfl,by go_num,congrArg (Value.int .i64) (by rw [HFK.out];rfl),HQ7.out,hx57⟩
     case measure=>omega
    ·obtain rfl:k=T.n:=by omega
     have HF:=Lib.hid (Que.own HQ.out)
     obtain ⟨fa,fg,fo,fc,hfv,hfc,hfa,hfq⟩:=(Que.own HQ.out).cells1
     obtain ⟨rfl,hfg1,hfg2⟩:=hfa (by omega)
     simp only [Value.slice.injEq] at hfv
     obtain ⟨rfl,_,rfl⟩:=hfv
     have HFQ:=Lib.hid (show ∀ j,j<T.n→wr.cell? ⟨fg,fo+j,none⟩=some (.int .i64 ((tott T.en j:Nat):Int)) from fun j hj=>(hfq j hj).trans (intCells_at (firstL_get T.en hj)))
     have HI9:=Lib.hid (HI5.out.ext hxw)
     have HB9:=Lib.hid (show fg≠b4∧(Value.slice a6 ln c6).ownBlock≠some fg∧fg<wr.heap.size∧b4<wr.heap.size from ⟨by have:=HB4.out;omega,fun e=>by have:=(own_lt HI5.out.own fg e).2;omega,hfg2,by have:=HB4.out;have:=hxw.le;omega⟩)
     have HX19:=Lib.hid hx1w
     have HX09:=Lib.hid hx0w
     clear HQ HF hfc hfa hfq hfg1 hfg2 htk hk
     rename World=>w9
     go_wp2_with fail
     go_loopg [84] T.n (fun gg v84 wx=>∃ (k:Nat) (ev:Value),k≤T.n∧gg=T.n - k∧v84=.int .i64 k∧NwI w1 b4 ((m:Int)+2) (edgesW m w m++ndE (T.toTr.needL (T.toTr.evsTo k 0)) mo) ev wx∧wx.heap[fg]?=w9.heap[fg]?∧ev.ownBlock≠some fg)
     case atStart=>exact ⟨0,.slice a6 ln c6,by omega,rfl,rfl,by
      have hz:edgesW m w m++ndE (T.toTr.needL (T.toTr.evsTo 0 0)) mo=edgesW m w m:=by simp [Tr.evsTo,Tr.needL,ndE]
      rw [hz];exact HI9.out,rfl,HB9.out.2.1⟩
     case round=>
      obtain ⟨k,ev,hk,rfl,rfl,hI,hfb,hev⟩:=hrel
      have hx1r:=hI.hx
      have hx0r:=hx1.trans hx1r
      have HI:=Lib.hid hI
      have HFB:=Lib.hid hfb
      have HEV:=Lib.hid hev
      clear hI hfb hev
      by_cases hlt:k<T.n
      ·have hlt':(k:Int)<(T.n:Int):=by omega
       have hen:=HV.out.en64 hlt
       have pb:=HT.out.P.pb (by omega)
       have p0:∀ w',Ext W w'→w'.cell? ⟨T.b,T.off+k*3,none⟩=some (.string (T.name k)):=fun w' h=>HT.out.P.p0 w' h k hlt
       have p1:∀ w',Ext W w'→w'.cell? ⟨T.b,T.off+k*3+1,none⟩=some (.slice (T.va k) (T.vn k) (T.vc k)):=fun w' h=>HT.out.P.p1 w' h k hlt
       have p2:∀ w',Ext W w'→w'.cell? ⟨T.b,T.off+k*3+2,none⟩=some (.slice (T.ea k) (T.en k) (T.ec k)):=fun w' h=>HT.out.P.p2 w' h k hlt
       go_upto_region 24 with fail
       refine boxed1 (w:=wr) (G:=fun x=>Code.wp _ _ _ _ x) ?_
       intro w10 hx10 hs10 ⟨l10,c10,_,_⟩
       have hx1010:Ext w10 w10:=Ext.refl _
       have HI10:=Lib.hid (HI.out.ext hx10)
       have HF10:=Lib.hid (show w10.heap[fg]?=w9.heap[fg]? from (hx10.block fg (heap_lt HFB.out HB9.out.2.2.1)).trans HFB.out)
       clear hs10
       go_wp2_with fail
       go_loopg [92] (T.en k) (fun gg v92 wx=>∃ (i:Nat) (ev:Value),i≤T.en k∧gg=T.en k - i∧v92=.int .i64 i∧NwI w1 b4 ((m:Int)+2) (edgesW m w m++ndE (T.toTr.needL (T.toTr.evsTo k i)) mo) ev wx∧wx.heap[fg]?=w9.heap[fg]?∧ev.ownBlock≠some fg)
       case atStart=>exact ⟨0,ev,by omega,rfl,rfl,HI10.out,HF10.out,HEV.out⟩
       case round=>
        obtain ⟨i,ev2,hi,rfl,rfl,hI,hfb,hev⟩:=hrel
        clear HI HFB HEV HI10 HF10 hx10 l10 c10 hx1010 p0 p1 p2 pb
        have hx1i:=hI.hx
        have hx0i:=hx1.trans hx1i
        have HI:=Lib.hid hI
        have HFB:=Lib.hid hfb
        have HEV:=Lib.hid hev
        clear hI hfb hev hx1r hx0r
        by_cases hli:i<T.en k
        ·have hli':(i:Int)<(T.en k:Int):=by omega
         have eb:=HT.out.E.eb k hlt (by omega)
         have hea:=HT.out.E.ea k hlt (by omega)
         have e0:∀ w',Ext W w'→w'.cell? ⟨T.eb k,T.eo k+i*5,none⟩=some (.int .i64 (T.kind k i)):=fun w' h=>HT.out.E.e0 w' h k i hlt hli
         have e1:∀ w',Ext W w'→w'.cell? ⟨T.eb k,T.eo k+i*5+1,none⟩=some (.int .i64 (T.peer k i)):=fun w' h=>HT.out.E.e1 w' h k i hlt hli
         have e2:∀ w',Ext W w'→w'.cell? ⟨T.eb k,T.eo k+i*5+2,none⟩=some (.int .i64 (T.msg k i)):=fun w' h=>HT.out.E.e2 w' h k i hlt hli
         have e3:∀ w',Ext W w'→w'.cell? ⟨T.eb k,T.eo k+i*5+3,none⟩=some (.int .i64 (T.time k i)):=fun w' h=>HT.out.E.e3 w' h k i hlt hli
         have e4:∀ w',Ext W w'→w'.cell? ⟨T.eb k,T.eo k+i*5+4,none⟩=some (.slice (T.aa k i) (T.an k i) (T.ac k i)):=fun w' h=>HT.out.E.e4 w' h k i hlt hli
         have hrr:Ext wr wr:=Ext.refl _
         go_upto_region 27 with fail
         refine boxed1 (w:=wr) (G:=fun x=>Code.wp _ _ _ _ x) ?_
         intro w10 hx10 hs10 ⟨l10,c10,f10,k10⟩
         have hx1010:Ext w10 w10:=Ext.refl _
         obtain ⟨fk,hfk⟩:∃ z,z=tott T.en k:=⟨_,rfl⟩
         have hfk5:fk≤512:=by rw [hfk,tott_tot];have:=tot_small (f:=T.en) (c:=64) (n:=k) (fun j hj=>HV.out.en64 (by omega));omega
         have FRL:=Lib.hid (fun w' (h:w'.heap[fg]?=w9.heap[fg]?) w'' (x:Ext w' w'')=>(show fg<w''.heap.size from Nat.lt_of_lt_of_le (heap_lt h HB9.out.2.2.1) x.le))
         have FRK:=Lib.hid (fun w' (h:w'.heap[fg]?=w9.heap[fg]?) w'' (x:Ext w' w'')=>(show w''.cell? ⟨fg,fo+k,none⟩=some (.int .i64 (fk:Int)) from by rw [hfk];exact x.cell ((World.cell?_of_block (w:=w9) (a:=⟨fg,fo+k,none⟩) h).trans (HFQ.out k hlt))))
         have HFK:=Lib.hid hfk
         obtain ⟨xa,hxa⟩:∃ z,z=fk+i:=⟨_,rfl⟩
         have HXA:=Lib.hid hxa
         have hwA:IntKind.i64.wrap ((fk:Int)+(i:Int))=(xa:Int):=by rw [IntWalk.i64_in _ (by omega)];omega
         have hxa5:xa≤600:=by omega
         have HNA:=Lib.hid (show T.toTr.num (k,i)=xa from by rw [HXA.out,HFK.out];rfl)
         obtain ⟨bx,hbx⟩:∃ z,z=wr.heap.size:=⟨_,rfl⟩
         have HBX:=Lib.hid hbx
         rw [←hbx] at l10 c10 f10 k10 ⊢
         have HOL:=Lib.hid (fun g e=>(own_lt HI.out.own g e).2)
         have HBL:=Lib.hid (show b4<wr.heap.size from HI.out.h4.lt)
         clear hfk hxa hbx hs10
         go_upto_if 98 with fail
         go_cut [98] (fun s98 wx=>∃ ev,NwI w1 b4 ((m:Int)+2) (edgesW m w m++ndE (T.toTr.needL (T.toTr.evsTo k i)++(if 0<i then [(T.toTr.num (k,i),T.toTr.num (k,i - 1))] else [])) mo) ev wx∧wx.heap[fg]?=w9.heap[fg]?∧ev.ownBlock≠some fg∧Hold wx bx #[.int .i64 (T.kind k i),.int .i64 (T.peer k i),.int .i64 (T.msg k i),.int .i64 (T.time k i),.slice (T.aa k i) (T.an k i) (T.ac k i)]∧ev.ownBlock≠some bx)
         case first=>
          have hfb10:w10.heap[fg]?=w9.heap[fg]?:=(hx10.block fg (heap_lt HFB.out HB9.out.2.2.1)).trans HFB.out
          by_cases h0:0<i
          ·have d0:decide ((0:Int)<(i:Int))=true:=decide_eq_true (by omega)
           have d0':decide (0<i)=true:=decide_eq_true h0
           have FRS:=Lib.hid FRK.out
           obtain ⟨xb,hxb⟩:∃ z,z=fk+(i - 1):=⟨_,rfl⟩
           have hwB:IntKind.i64.wrap ((xa:Int) - 1)=(xb:Int):=by have:=HXA.out;rw [IntWalk.i64_in _ (by omega)];omega
           have HNB:=Lib.hid (show T.toTr.num (k,i - 1)=xb from by rw [hxb,HFK.out];rfl)
           clear hxb
           obtain ⟨a6,c6,hev6⟩:=own_form (NwI.own (HI.out.ext hx10))
           obtain ⟨L,hL⟩:∃ L,L=(edgesW m w m++ndE (T.toTr.needL (T.toTr.evsTo k i)) mo):=⟨_,rfl⟩
           have HNI:=Lib.hid (HI.out.ext hx10)
           have HEF:=Lib.hid HEV.out
           have HEW:=Lib.hid (show ev2.ownBlock≠some bx from fun e=>by have:=HOL.out _ e;have:=HBX.out;omega)
           rw [←hL] at hev6 HNI
           have HL:=Lib.hid hL
           clear hL
           obtain ⟨ln,hln⟩:∃ z,z=L.length:=⟨_,rfl⟩
           rw [←hln] at hev6
           have HLN:=Lib.hid hln
           have hlm:ln≤2000:=by
            rw [hln,HL.out]
            have h1:=edgesW_len m w m
            have h2:=T.toTr.needL_len (T.toTr.evsTo k i)
            have h3:=T.toTr.evsTo_tot k i hlt (by omega)
            have h4:tott T.en k+i≤m:=by rw [HM.out];exact Nat.le_of_lt (tott_lt T.en hlt hli)
            rw [tott_tot] at h4
            simp only [ndE,List.length_append,List.length_map]
            (try split) <;> (try simp) <;> omega
           clear hln
           subst hev6
           have HI:=Lib.hid HNI.out
           have HO:=Lib.hid (show w10.ownsRow (b4+1) 57 3 (.slice a6 ln c6) ln (edCells L) from by have:=HI.out.own;rw [←HLN.out] at this;exact this)
           have HB4:=Lib.hid (show b4<w10.heap.size from HI.out.h4.lt)
           have HF10:=Lib.hid (show w10.heap[fg]?=w9.heap[fg]?∧(Value.slice a6 ln c6).ownBlock≠some fg∧fg<w10.heap.size from ⟨hfb10,HEF.out,heap_lt hfb10 HB9.out.2.2.1⟩)
           have HE10:=Lib.hid (show Hold w10 bx _ from k10)
           have HEO:=Lib.hid (show bx≠b4∧(Value.slice a6 ln c6).ownBlock≠some bx from ⟨(by have:=HBL.out;have:=HBX.out;omega),HEW.out⟩)
           obtain ⟨l4,c4,f4,_⟩:=HI.out.h4.box
           have HND:=Lib.hid (show edgesW m w m++ndE (T.toTr.needL (T.toTr.evsTo k i)++(if 0<i then [(T.toTr.num (k,i),T.toTr.num (k,i - 1))] else [])) mo=L++[(xa,xb,mo)] from by rw [if_pos h0,ndE_append,←List.append_assoc,←HL.out,HNA.out,HNB.out];rfl)
           clear e0 e1 e2 e3 e4 eb hea
           go_upto_region 28 with fail
           have hWW:Ext w10 w10:=Ext.refl _
           have hWA:=Ext.alloc w10 (.cells #[.int .i64 (xa:Int),.int .i64 (xb:Int),.int .i64 mo] 57)
           refine wp_region_held_drew (S:=fun w'=>w'.heap[fg]?=w9.heap[fg]?∧Hold w' bx #[.int .i64 (T.kind k i),.int .i64 (T.peer k i),.int .i64 (T.msg k i),.int .i64 (T.time k i),.slice (T.aa k i) (T.an k i) (T.ac k i)]) (by kernel_rfl) ⟨HF10.out.1,Hold.ext HE10.out (Ext.refl _).drew⟩ (fun hHeld=>?_)
           refine hQ 0 (v:=?_) rfl (y:=.inl ⟨by rfl,?_⟩) (h:=?_)
           rotate_left
           ·(intro w' hSw;have lS:=FRL.out w' hSw.1;have cS:=FRK.out w' hSw.1;have cT:=FRS.out w' hSw.1;obtain ⟨lU,cU,_,_⟩:=hSw.2.box;have hSS:=Ext.refl w';go_simp;try with_reducible rfl)
           try simp only [Act.put,zA,zB,zC]
           refine hQ 2 (v:=?_) rfl (y:=.inl ⟨by rfl,?_⟩) (h:=?_)
           rotate_left
           ·(intro w' hSw;have lS:=FRL.out w' hSw.1;have cS:=FRK.out w' hSw.1;have cT:=FRS.out w' hSw.1;obtain ⟨lU,cU,_,_⟩:=hSw.2.box;have hSS:=Ext.refl w';go_simp;try with_reducible rfl)
           try simp only [Act.put,zA,zB,zC]
           refine hQ 3 (v:=?_) rfl (y:=.inl ⟨by rfl,?_⟩) (h:=?_)
           rotate_left
           ·(intro w' hSw;have lS:=FRL.out w' hSw.1;have cS:=FRK.out w' hSw.1;have cT:=FRS.out w' hSw.1;obtain ⟨lU,cU,_,_⟩:=hSw.2.box;have hSS:=Ext.refl w';go_simp;try with_reducible rfl)
           try simp only [Act.put,zA,zB,zC]
           refine hQ 4 (v:=?_) rfl (y:=.inl ⟨by rfl,?_⟩) (h:=?_)
           rotate_left
           ·(intro w' hSw;have lS:=FRL.out w' hSw.1;have cS:=FRK.out w' hSw.1;have cT:=FRS.out w' hSw.1;obtain ⟨lU,cU,_,_⟩:=hSw.2.box;have hSS:=Ext.refl w';go_simp;try with_reducible rfl)
           try simp only [Act.put,zA,zB,zC]
           refine hQ 5 (v:=?_) rfl (y:=.inl ⟨by rfl,?_⟩) (h:=?_)
           rotate_left
           ·(intro w' hSw;have lS:=FRL.out w' hSw.1;have cS:=FRK.out w' hSw.1;have cT:=FRS.out w' hSw.1;obtain ⟨lU,cU,_,_⟩:=hSw.2.box;have hSS:=Ext.refl w';go_simp;try with_reducible rfl)
           try simp only [Act.put,zA,zB,zC]
           refine hQ 6 (v:=?_) rfl (y:=.inl ⟨by rfl,?_⟩) (h:=?_)
           rotate_left
           ·(intro w' hSw;have lS:=FRL.out w' hSw.1;have cS:=FRK.out w' hSw.1;have cT:=FRS.out w' hSw.1;obtain ⟨lU,cU,_,_⟩:=hSw.2.box;have hSS:=Ext.refl w';go_simp;try with_reducible rfl)
           try simp only [Act.put,zA,zB,zC]
           refine hQ 7 (v:=?_) rfl (y:=.inl ⟨by rfl,?_⟩) (h:=?_)
           rotate_left
           ·(intro w' hSw;have lS:=FRL.out w' hSw.1;have cS:=FRK.out w' hSw.1;have cT:=FRS.out w' hSw.1;obtain ⟨lU,cU,_,_⟩:=hSw.2.box;have hSS:=Ext.refl w';go_simp;try with_reducible rfl)
           try simp only [Act.put,zA,zB,zC]
           refine hQ 8 (v:=?_) rfl (y:=.inl ⟨by rfl,?_⟩) (h:=?_)
           rotate_left
           ·(intro w' hSw;have lS:=FRL.out w' hSw.1;have cS:=FRK.out w' hSw.1;have cT:=FRS.out w' hSw.1;obtain ⟨lU,cU,_,_⟩:=hSw.2.box;have hSS:=Ext.refl w';go_simp;try with_reducible rfl)
           try simp only [Act.put,zA,zB,zC]
           refine hQ 9 (v:=?_) rfl (y:=.inl ⟨by rfl,?_⟩) (h:=?_)
           rotate_left
           ·(intro w' hSw;have lS:=FRL.out w' hSw.1;have cS:=FRK.out w' hSw.1;have cT:=FRS.out w' hSw.1;obtain ⟨lU,cU,_,_⟩:=hSw.2.box;have hSS:=Ext.refl w';go_simp;try with_reducible rfl)
           try simp only [Act.put,zA,zB,zC]
           refine hQ 10 (v:=?_) rfl (y:=.inl ⟨by rfl,?_⟩) (h:=?_)
           rotate_left
           ·(intro w' hSw;have lS:=FRL.out w' hSw.1;have cS:=FRK.out w' hSw.1;have cT:=FRS.out w' hSw.1;obtain ⟨lU,cU,_,_⟩:=hSw.2.box;have hSS:=Ext.refl w';go_simp;try with_reducible rfl)
           try simp only [Act.put,zA,zB,zC]
           refine hQ 11 (v:=?_) rfl (y:=.inl ⟨by rfl,?_⟩) (h:=?_)
           rotate_left
           ·(intro w' hSw;have lS:=FRL.out w' hSw.1;have cS:=FRK.out w' hSw.1;have cT:=FRS.out w' hSw.1;obtain ⟨lU,cU,_,_⟩:=hSw.2.box;have hSS:=Ext.refl w';go_simp;try with_reducible rfl)
           try simp only [Act.put,zA,zB,zC]
           refine hQ 12 (v:=?_) rfl (y:=.inl ⟨by rfl,?_⟩) (h:=?_)
           rotate_left
           ·(intro w' hSw;have lS:=FRL.out w' hSw.1;have cS:=FRK.out w' hSw.1;have cT:=FRS.out w' hSw.1;obtain ⟨lU,cU,_,_⟩:=hSw.2.box;have hSS:=Ext.refl w';go_simp;try with_reducible rfl)
           try simp only [Act.put,zA,zB,zC]
           refine hQ 13 (v:=?_) rfl (y:=.inl ⟨by rfl,?_⟩) (h:=?_)
           rotate_left
           ·(intro w' hSw;have lS:=FRL.out w' hSw.1;have cS:=FRK.out w' hSw.1;have cT:=FRS.out w' hSw.1;obtain ⟨lU,cU,_,_⟩:=hSw.2.box;have hSS:=Ext.refl w';go_simp;try with_reducible rfl)
           try simp only [Act.put,zA,zB,zC]
           refine hQ 14 (v:=?_) rfl (y:=.inl ⟨by rfl,?_⟩) (h:=?_)
           rotate_left
           ·(intro w' hSw;have lS:=FRL.out w' hSw.1;have cS:=FRK.out w' hSw.1;have cT:=FRS.out w' hSw.1;obtain ⟨lU,cU,_,_⟩:=hSw.2.box;have hSS:=Ext.refl w';go_simp;try with_reducible rfl)
           try simp only [Act.put,zA,zB,zC]
           refine hQ 15 (v:=?_) rfl (y:=.inl ⟨by rfl,?_⟩) (h:=?_)
           rotate_left
           ·(intro w' hSw;have lS:=FRL.out w' hSw.1;have cS:=FRK.out w' hSw.1;have cT:=FRS.out w' hSw.1;obtain ⟨lU,cU,_,_⟩:=hSw.2.box;have hSS:=Ext.refl w';go_simp;try with_reducible rfl)
           try simp only [Act.put,zA,zB,zC]
           refine hQ 16 (v:=?_) rfl (y:=.inl ⟨by rfl,?_⟩) (h:=?_)
           rotate_left
           ·(intro w' hSw;have lS:=FRL.out w' hSw.1;have cS:=FRK.out w' hSw.1;have cT:=FRS.out w' hSw.1;obtain ⟨lU,cU,_,_⟩:=hSw.2.box;have hSS:=Ext.refl w';go_simp;try with_reducible rfl)
           try simp only [Act.put,zA,zB,zC]
           refine wpAnyH_ready (rs:=[1,17]) (by kernel_rfl) (by simp) ?_
           refine AllReadyH.cons rfl (fun K hK=>?_) (AllReadyH.cons rfl (fun K hK=>?_) AllReadyH.nil)
           ·go_simp
            refine hK.out _ _ ?_ (fun hHeld2=>?_)
            ·exact hHeld
            clear hK K
            try simp only [Act.put,zA,zB,zC]
            refine wpAnyH_ready (rs:=[17]) (by kernel_rfl) (by simp) ?_
            refine AllReadyH.cons rfl (fun K hK=>?_) AllReadyH.nil
            go_simp
            refine hK.out _ _ ?_ (fun hHeld3=>?_)
            ·exact ⟨((Ext.alloc _ _).block fg HF10.out.2.2).trans hHeld.1,Hold.ext hHeld.2 (Ext.alloc _ _)⟩
            clear hK K
            try simp only [Act.put,zA,zB,zC]
            refine wpAnyH_ready (rs:=[18]) (by kernel_rfl) (by simp) ?_
            refine AllReadyH.cons rfl (fun K hK=>?_) AllReadyH.nil
            refine step_append_lies _ (by exact rfl) (.tmp 100) (.tmp 116) 42 (by exact rfl) (b4+1) 57 i1 (.agg #[.int .i64 0,.int .i64 0,.int .i64 0]) 3 24 Tryz.underlying42 hi1 hz0 hz1 hz2 rfl (by decide) (.slice a6 ln c6) ln (edCells L) (by exact rfl) (by exact own_ext HO.out ((Ext.refl w10).drew.alloc' _)) ⟨(w10).heap.size,0,none⟩ 1 1 [.int .i64 (xa:Int),.int .i64 (xb:Int),.int .i64 mo] (by exact rfl) rfl (by intro j u hj;exact news_ok w10 [_,_,_] _ j u hj) (edge_one _ _ _) (by decide) (by unfold maxLen;omega) (by omega) (by have:=HB4.out;simp;omega) _ rfl ?_
            rintro g8 c8 w8 hown8 hg8 hor8 hlt8
            have HP:=Lib.hid (NwI.push (t:=(xa,xb,mo)) HI.out ((Ext.refl w10).drew.alloc' _) (by rw [←HLN.out];exact hown8) hg8)
            have HA8:=Lib.hid (fun z (hz:z<(w10).heap.size) (hz4:z≠b4) (hze:(Value.slice a6 ln c6).ownBlock≠some z)=>NwI.apart (b4:=b4) (v6:=.slice (some ⟨g8,0,none⟩) (ln+1) c8) ((Ext.refl w10).drew.alloc' (.cells #[.int .i64 (xa:Int),.int .i64 (xb:Int),.int .i64 mo] 57)) hg8 hz hz4 hze)
            have HO8:=Lib.hid (fun z (hz:z<(w10).heap.size) (hze:(Value.slice a6 ln c6).ownBlock≠some z) (e:(Value.slice (some ⟨g8,0,none⟩) (ln+1) c8).ownBlock=some z)=>(show False from by
             simp [Value.ownBlock] at e
             subst e
             rcases hor8 with h | h
             ·exact hze h
             ·simp at h;omega))
            have HS8:=Lib.hid (fun z (hz:z<(w10).heap.size) (hze:(Value.slice a6 ln c6).ownBlock≠some z)=>(show w8.heap[z]?=(w10).heap[z]? from (hg8.block z (by simp;omega) (fun e=>hze e.symm)).trans (((Ext.refl w10).drew.alloc' _).block z hz)))
            clear hown8 hg8 hor8 hlt8
            refine hK.out _ _ ?_ (fun hHeld4=>?_)
            ·exact ⟨(HS8.out fg HF10.out.2.2 HF10.out.2.1).trans HF10.out.1,Hold.blk HE10.out (HS8.out _ HE10.out.lt HEO.out.2)⟩
            clear hK K
            try simp only [Act.put,List.setIfInBounds_toArray]
            obtain ⟨l8,c8',f8,_⟩:=HP.out.1.box
            have hx88:Ext w8 w8:=Ext.refl _
            refine hQ 19 (v:=?_) rfl (y:=.inl ⟨by rfl,?_⟩) (h:=?_)
            rotate_left
            ·(intro w' hSw;have lS:=FRL.out w' hSw.1;have cS:=FRK.out w' hSw.1;have cT:=FRS.out w' hSw.1;obtain ⟨lU,cU,_,_⟩:=hSw.2.box;have hSS:=Ext.refl w';go_simp;try with_reducible rfl)
            simp only [Act.put]
            refine wpAnyH_ready (rs:=[20]) (by kernel_rfl) (by simp) ?_
            refine AllReadyH.cons rfl (fun K hK=>?_) AllReadyH.nil
            go_simp
            refine hK.out _ _ ?_ (fun hHeld5=>?_)
            ·exact ⟨(HA8.out fg HF10.out.2.2 HB9.out.1 HF10.out.2.1).1.trans HF10.out.1,Hold.blk HE10.out (HA8.out _ HE10.out.lt HEO.out.1 HEO.out.2).1⟩
            clear hK K
            try simp only [Act.put,zA,zB,zC]
            refine wpAnyH_done (by kernel_rfl) ?_ _
            clear l8 c8' f8 hx88
            clear hHeld hHeld2 hHeld3 hHeld4
            have HP2:=Lib.hid HP.out.2
            go_wp2_with fail
            go_meet
            case rel=>exact ⟨_,by rw [HND.out];exact HP2.out,hHeld5.1,fun e=>HO8.out fg HF10.out.2.2 HF10.out.2.1 e,hHeld5.2,fun e=>HO8.out _ HE10.out.lt HEO.out.2 e⟩
           ·go_simp
            refine hK.out _ _ ?_ (fun hHeld2=>?_)
            ·exact ⟨((Ext.alloc _ _).block fg HF10.out.2.2).trans hHeld.1,Hold.ext hHeld.2 (Ext.alloc _ _)⟩
            clear hK K
            try simp only [Act.put,zA,zB,zC]
            refine wpAnyH_ready (rs:=[1]) (by kernel_rfl) (by simp) ?_
            refine AllReadyH.cons rfl (fun K hK=>?_) AllReadyH.nil
            go_simp
            refine hK.out _ _ ?_ (fun hHeld3=>?_)
            ·exact hHeld2
            clear hK K
            try simp only [Act.put,zA,zB,zC]
            refine wpAnyH_ready (rs:=[18]) (by kernel_rfl) (by simp) ?_
            refine AllReadyH.cons rfl (fun K hK=>?_) AllReadyH.nil
            refine step_append_lies _ (by exact rfl) (.tmp 100) (.tmp 116) 42 (by exact rfl) (b4+1) 57 i1 (.agg #[.int .i64 0,.int .i64 0,.int .i64 0]) 3 24 Tryz.underlying42 hi1 hz0 hz1 hz2 rfl (by decide) (.slice a6 ln c6) ln (edCells L) (by exact rfl) (by exact own_ext HO.out ((Ext.refl w10).drew.alloc' _)) ⟨(w10).heap.size,0,none⟩ 1 1 [.int .i64 (xa:Int),.int .i64 (xb:Int),.int .i64 mo] (by exact rfl) rfl (by intro j u hj;exact news_ok w10 [_,_,_] _ j u hj) (edge_one _ _ _) (by decide) (by unfold maxLen;omega) (by omega) (by have:=HB4.out;simp;omega) _ rfl ?_
            rintro g8 c8 w8 hown8 hg8 hor8 hlt8
            have HP:=Lib.hid (NwI.push (t:=(xa,xb,mo)) HI.out ((Ext.refl w10).drew.alloc' _) (by rw [←HLN.out];exact hown8) hg8)
            have HA8:=Lib.hid (fun z (hz:z<(w10).heap.size) (hz4:z≠b4) (hze:(Value.slice a6 ln c6).ownBlock≠some z)=>NwI.apart (b4:=b4) (v6:=.slice (some ⟨g8,0,none⟩) (ln+1) c8) ((Ext.refl w10).drew.alloc' (.cells #[.int .i64 (xa:Int),.int .i64 (xb:Int),.int .i64 mo] 57)) hg8 hz hz4 hze)
            have HO8:=Lib.hid (fun z (hz:z<(w10).heap.size) (hze:(Value.slice a6 ln c6).ownBlock≠some z) (e:(Value.slice (some ⟨g8,0,none⟩) (ln+1) c8).ownBlock=some z)=>(show False from by
             simp [Value.ownBlock] at e
             subst e
             rcases hor8 with h | h
             ·exact hze h
             ·simp at h;omega))
            have HS8:=Lib.hid (fun z (hz:z<(w10).heap.size) (hze:(Value.slice a6 ln c6).ownBlock≠some z)=>(show w8.heap[z]?=(w10).heap[z]? from (hg8.block z (by simp;omega) (fun e=>hze e.symm)).trans (((Ext.refl w10).drew.alloc' _).block z hz)))
            clear hown8 hg8 hor8 hlt8
            refine hK.out _ _ ?_ (fun hHeld4=>?_)
            ·exact ⟨(HS8.out fg HF10.out.2.2 HF10.out.2.1).trans HF10.out.1,Hold.blk HE10.out (HS8.out _ HE10.out.lt HEO.out.2)⟩
            clear hK K
            try simp only [Act.put,List.setIfInBounds_toArray]
            obtain ⟨l8,c8',f8,_⟩:=HP.out.1.box
            have hx88:Ext w8 w8:=Ext.refl _
            refine hQ 19 (v:=?_) rfl (y:=.inl ⟨by rfl,?_⟩) (h:=?_)
            rotate_left
            ·(intro w' hSw;have lS:=FRL.out w' hSw.1;have cS:=FRK.out w' hSw.1;have cT:=FRS.out w' hSw.1;obtain ⟨lU,cU,_,_⟩:=hSw.2.box;have hSS:=Ext.refl w';go_simp;try with_reducible rfl)
            simp only [Act.put]
            refine wpAnyH_ready (rs:=[20]) (by kernel_rfl) (by simp) ?_
            refine AllReadyH.cons rfl (fun K hK=>?_) AllReadyH.nil
            go_simp
            refine hK.out _ _ ?_ (fun hHeld5=>?_)
            ·exact ⟨(HA8.out fg HF10.out.2.2 HB9.out.1 HF10.out.2.1).1.trans HF10.out.1,Hold.blk HE10.out (HA8.out _ HE10.out.lt HEO.out.1 HEO.out.2).1⟩
            clear hK K
            try simp only [Act.put,zA,zB,zC]
            refine wpAnyH_done (by kernel_rfl) ?_ _
            clear l8 c8' f8 hx88
            clear hHeld hHeld2 hHeld3 hHeld4
            have HP2:=Lib.hid HP.out.2
            go_wp2_with fail
            go_meet
            case rel=>exact ⟨_,by rw [HND.out];exact HP2.out,hHeld5.1,fun e=>HO8.out fg HF10.out.2.2 HF10.out.2.1 e,hHeld5.2,fun e=>HO8.out _ HE10.out.lt HEO.out.2 e⟩
          ·have d0:decide ((0:Int)<(i:Int))=false:=decide_eq_false (by omega)
           have d0':decide (0<i)=false:=decide_eq_false h0
           have HI10:=Lib.hid (HI.out.ext hx10)
           have HH0:=Lib.hid h0
           have HK10:=Lib.hid k10
           have HFB10:=Lib.hid hfb10
           clear h0 k10
           go_wp2_with fail
           go_meet
           case rel=>exact ⟨ev2,by rw [if_neg HH0.out,List.append_nil];exact HI10.out,HFB10.out,HEV.out,HK10.out,fun e=>by have:=HOL.out _ e;have:=HBX.out;omega⟩
         case rest=>
          obtain ⟨ev3,hI3,hfb3,hev3,hE3,heo3⟩:=hcut
          have hx1c:=hI3.hx
          have hx0c:=hx1.trans hx1c
          obtain ⟨l11,c11,f11,_⟩:=hE3.box
          have hcc:Ext wc wc:=Ext.refl _
          have HI3:=Lib.hid hI3
          have HFB3:=Lib.hid hfb3
          have HEV3:=Lib.hid hev3
          clear hI3 hfb3 hev3 hE3 heo3 l10 c10 f10 k10 hx10 hx1010 e0 e1 e2 e3 e4 eb hea hx1i hx0i
          have HST:=Lib.hid (T.toTr.needL_step hlt hli)
          by_cases h3:T.kind k i=3
          ·have d3:(T.kind k i == 3)=true:=by simpa using h3
           obtain ⟨⟨sp,si⟩,hsn⟩:∃ s,s=T.toTr.sndN (k,i):=⟨_,rfl⟩
           have hsV:=Tr.sndN_V (T:=T.toTr) (y:=(k,i)) ⟨hlt,hli⟩
           rw [←hsn] at hsV
           have hSnd:∀ W',Ext W W'→Calls Tryz.prog 162 #[T.val,.int .i64 (T.msg k i)] W' fun e w'=>e=.returned (.tuple #[.agg #[.int .i64 sp,.int .i64 (si+1)],.bool true])∧Ext W' w':=fun W' hx=>
            (sender_any W' T (HT.out.ext hx) HV.out _).mono fun e w' ⟨hx',p,q,b,he,hf⟩=>by
             obtain ⟨hp,hq,hb⟩:=HV.out.found (x:=⟨(k,i),hlt,hli⟩) h3 hf
             rw [←Tr.sndN_eq,←hsn] at hp hq
             exact ⟨by rw [he,hp,hq,hb],hx'⟩
           simp only [TM.val,show T.a=some ⟨T.b,T.off,none⟩ from HTA.out.symm] at hSnd
           have HSnd:=Lib.hid hSnd
           have HSN:=Lib.hid hsn
           have H3:=Lib.hid h3
           have hspn:sp<T.n:=hsV.1
           have hspn':(sp:Int)<(T.n:Int):=by omega
           have hsi:si<T.en sp:=hsV.2
           have hsi5:si≤64:=by have:=HV.out.en64 hspn;omega
           clear hSnd hsn h3 hsV
           go_upto_region 31 with (go_at_call 162;refine (HSnd.out _ hx0c).mono ?_;rintro e w11 ⟨rfl,hx11⟩)
           refine boxed1 (w:=w11) (G:=fun x=>Code.wp _ _ _ _ x) ?_
           intro w10 hx12 hs12 ⟨l12,c12,f12,k12⟩
           have hx10c:Ext wc w10:=hx11.trans hx12
           obtain ⟨fs,hfs⟩:∃ z,z=tott T.en sp:=⟨_,rfl⟩
           have hfs5:fs≤512:=by rw [hfs,tott_tot];have:=tot_small (f:=T.en) (c:=64) (n:=sp) (fun j hj=>HV.out.en64 (by omega));omega
           have FRS:=Lib.hid (fun w' (h:w'.heap[fg]?=w9.heap[fg]?) w'' (x:Ext w' w'')=>(show w''.cell? ⟨fg,fo+sp,none⟩=some (.int .i64 (fs:Int)) from by rw [hfs];exact x.cell ((World.cell?_of_block (w:=w9) (a:=⟨fg,fo+sp,none⟩) h).trans (HFQ.out sp hspn))))
           obtain ⟨xc,hxc⟩:∃ z,z=fs+(si+1):=⟨_,rfl⟩
           obtain ⟨xb,hxb⟩:∃ z,z=fs+si:=⟨_,rfl⟩
           have hwC:IntKind.i64.wrap ((fs:Int)+((si:Int)+1))=(xc:Int):=by rw [IntWalk.i64_in _ (by omega)];omega
           have hwB:IntKind.i64.wrap ((xc:Int) - 1)=(xb:Int):=by rw [IntWalk.i64_in _ (by omega)];omega
           have HNB:=Lib.hid (show T.toTr.num (T.toTr.sndN (k,i))=xb from by rw [←HSN.out,hxb,hfs];rfl)
           have hfbN:w10.heap[fg]?=w9.heap[fg]?:=(hx10c.block fg (heap_lt HFB3.out HB9.out.2.2.1)).trans HFB3.out
           obtain ⟨by_,hby⟩:∃ z,z=w11.heap.size:=⟨_,rfl⟩
           rw [←hby] at l12 c12 f12 k12 ⊢
           have HBY:=Lib.hid (show by_≠b4∧∀ g,ev3.ownBlock=some g→g≠by_ from ⟨by have:=HI3.out.h4.lt;have:=hx11.le;omega,fun g e=>by have:=(own_lt HI3.out.own g e).2;have:=hx11.le;omega⟩)
           clear hfs hxc hxb hby hs12 l11 c11 f11 hcc
           obtain ⟨a6,c6,hev6⟩:=own_form (NwI.own (HI3.out.ext hx10c))
           obtain ⟨L,hL⟩:∃ L,L=(edgesW m w m++ndE (T.toTr.needL (T.toTr.evsTo k i)++(if 0<i then [(T.toTr.num (k,i),T.toTr.num (k,i - 1))] else [])) mo):=⟨_,rfl⟩
           have HNI:=Lib.hid (HI3.out.ext hx10c)
           have HEF:=Lib.hid HEV3.out
           have HEW:=Lib.hid (show ev3.ownBlock≠some by_ from fun e=>HBY.out.2 _ e rfl)
           rw [←hL] at hev6 HNI
           have HL:=Lib.hid hL
           clear hL
           obtain ⟨ln,hln⟩:∃ z,z=L.length:=⟨_,rfl⟩
           rw [←hln] at hev6
           have HLN:=Lib.hid hln
           have hlm:ln≤2000:=by
            rw [hln,HL.out]
            have h1:=edgesW_len m w m
            have h2:=T.toTr.needL_len (T.toTr.evsTo k i)
            have h3:=T.toTr.evsTo_tot k i hlt (by omega)
            have h4:tott T.en k+i≤m:=by rw [HM.out];exact Nat.le_of_lt (tott_lt T.en hlt hli)
            rw [tott_tot] at h4
            simp only [ndE,List.length_append,List.length_map]
            (try split) <;> (try simp) <;> omega
           clear hln
           subst hev6
           have HI:=Lib.hid HNI.out
           have HO:=Lib.hid (show w10.ownsRow (b4+1) 57 3 (.slice a6 ln c6) ln (edCells L) from by have:=HI.out.own;rw [←HLN.out] at this;exact this)
           have HB4:=Lib.hid (show b4<w10.heap.size from HI.out.h4.lt)
           have HF10:=Lib.hid (show w10.heap[fg]?=w9.heap[fg]?∧(Value.slice a6 ln c6).ownBlock≠some fg∧fg<w10.heap.size from ⟨hfbN,HEF.out,heap_lt hfbN HB9.out.2.2.1⟩)
           have HE10:=Lib.hid (show Hold w10 by_ _ from k12)
           have HEO:=Lib.hid (show by_≠b4∧(Value.slice a6 ln c6).ownBlock≠some by_ from ⟨HBY.out.1,HEW.out⟩)
           obtain ⟨l4,c4,f4,_⟩:=HI.out.h4.box
           have HND:=Lib.hid (show edgesW m w m++ndE (T.toTr.needL (T.toTr.evsTo k (i+1))) mo=L++[(xa,xb,mo)] from by rw [HST.out,if_pos H3.out,←List.append_assoc,ndE_append,←List.append_assoc,←HL.out,HNA.out,HNB.out];rfl)
           have hWW:Ext w10 w10:=Ext.refl _
           have hWA:=Ext.alloc w10 (.cells #[.int .i64 (xa:Int),.int .i64 (xb:Int),.int .i64 mo] 57)
           refine wp_region_held_drew (S:=fun w'=>w'.heap[fg]?=w9.heap[fg]?∧Hold w' by_ #[.int .i64 (sp:Int),.int .i64 ((si:Int)+1)]) (by kernel_rfl) ⟨HF10.out.1,Hold.ext HE10.out (Ext.refl _).drew⟩ (fun hHeld=>?_)
           refine hQ 0 (v:=?_) rfl (y:=.inl ⟨by rfl,?_⟩) (h:=?_)
           rotate_left
           ·(intro w' hSw;have lS:=FRL.out w' hSw.1;have cS:=FRK.out w' hSw.1;have cT:=FRS.out w' hSw.1;obtain ⟨lU,cU,_,_⟩:=hSw.2.box;have hSS:=Ext.refl w';go_simp;try with_reducible rfl)
           try simp only [Act.put,zA,zB,zC]
           refine hQ 2 (v:=?_) rfl (y:=.inl ⟨by rfl,?_⟩) (h:=?_)
           rotate_left
           ·(intro w' hSw;have lS:=FRL.out w' hSw.1;have cS:=FRK.out w' hSw.1;have cT:=FRS.out w' hSw.1;obtain ⟨lU,cU,_,_⟩:=hSw.2.box;have hSS:=Ext.refl w';go_simp;try with_reducible rfl)
           try simp only [Act.put,zA,zB,zC]
           refine hQ 3 (v:=?_) rfl (y:=.inl ⟨by rfl,?_⟩) (h:=?_)
           rotate_left
           ·(intro w' hSw;have lS:=FRL.out w' hSw.1;have cS:=FRK.out w' hSw.1;have cT:=FRS.out w' hSw.1;obtain ⟨lU,cU,_,_⟩:=hSw.2.box;have hSS:=Ext.refl w';go_simp;try with_reducible rfl)
           try simp only [Act.put,zA,zB,zC]
           refine hQ 4 (v:=?_) rfl (y:=.inl ⟨by rfl,?_⟩) (h:=?_)
           rotate_left
           ·(intro w' hSw;have lS:=FRL.out w' hSw.1;have cS:=FRK.out w' hSw.1;have cT:=FRS.out w' hSw.1;obtain ⟨lU,cU,_,_⟩:=hSw.2.box;have hSS:=Ext.refl w';go_simp;try with_reducible rfl)
           try simp only [Act.put,zA,zB,zC]
           refine hQ 5 (v:=?_) rfl (y:=.inl ⟨by rfl,?_⟩) (h:=?_)
           rotate_left
           ·(intro w' hSw;have lS:=FRL.out w' hSw.1;have cS:=FRK.out w' hSw.1;have cT:=FRS.out w' hSw.1;obtain ⟨lU,cU,_,_⟩:=hSw.2.box;have hSS:=Ext.refl w';go_simp;try with_reducible rfl)
           try simp only [Act.put,zA,zB,zC]
           refine hQ 6 (v:=?_) rfl (y:=.inl ⟨by rfl,?_⟩) (h:=?_)
           rotate_left
           ·(intro w' hSw;have lS:=FRL.out w' hSw.1;have cS:=FRK.out w' hSw.1;have cT:=FRS.out w' hSw.1;obtain ⟨lU,cU,_,_⟩:=hSw.2.box;have hSS:=Ext.refl w';go_simp;try with_reducible rfl)
           try simp only [Act.put,zA,zB,zC]
           refine hQ 7 (v:=?_) rfl (y:=.inl ⟨by rfl,?_⟩) (h:=?_)
           rotate_left
           ·(intro w' hSw;have lS:=FRL.out w' hSw.1;have cS:=FRK.out w' hSw.1;have cT:=FRS.out w' hSw.1;obtain ⟨lU,cU,_,_⟩:=hSw.2.box;have hSS:=Ext.refl w';go_simp;try with_reducible rfl)
           try simp only [Act.put,zA,zB,zC]
           refine hQ 8 (v:=?_) rfl (y:=.inl ⟨by rfl,?_⟩) (h:=?_)
           rotate_left
           ·(intro w' hSw;have lS:=FRL.out w' hSw.1;have cS:=FRK.out w' hSw.1;have cT:=FRS.out w' hSw.1;obtain ⟨lU,cU,_,_⟩:=hSw.2.box;have hSS:=Ext.refl w';go_simp;try with_reducible rfl)
           try simp only [Act.put,zA,zB,zC]
           refine hQ 9 (v:=?_) rfl (y:=.inl ⟨by rfl,?_⟩) (h:=?_)
           rotate_left
           ·(intro w' hSw;have lS:=FRL.out w' hSw.1;have cS:=FRK.out w' hSw.1;have cT:=FRS.out w' hSw.1;obtain ⟨lU,cU,_,_⟩:=hSw.2.box;have hSS:=Ext.refl w';go_simp;try with_reducible rfl)
           try simp only [Act.put,zA,zB,zC]
           refine hQ 10 (v:=?_) rfl (y:=.inl ⟨by rfl,?_⟩) (h:=?_)
           rotate_left
           ·(intro w' hSw;have lS:=FRL.out w' hSw.1;have cS:=FRK.out w' hSw.1;have cT:=FRS.out w' hSw.1;obtain ⟨lU,cU,_,_⟩:=hSw.2.box;have hSS:=Ext.refl w';go_simp;try with_reducible rfl)
           try simp only [Act.put,zA,zB,zC]
           refine hQ 11 (v:=?_) rfl (y:=.inl ⟨by rfl,?_⟩) (h:=?_)
           rotate_left
           ·(intro w' hSw;have lS:=FRL.out w' hSw.1;have cS:=FRK.out w' hSw.1;have cT:=FRS.out w' hSw.1;obtain ⟨lU,cU,_,_⟩:=hSw.2.box;have hSS:=Ext.refl w';go_simp;try with_reducible rfl)
           try simp only [Act.put,zA,zB,zC]
           refine hQ 12 (v:=?_) rfl (y:=.inl ⟨by rfl,?_⟩) (h:=?_)
           rotate_left
           ·(intro w' hSw;have lS:=FRL.out w' hSw.1;have cS:=FRK.out w' hSw.1;have cT:=FRS.out w' hSw.1;obtain ⟨lU,cU,_,_⟩:=hSw.2.box;have hSS:=Ext.refl w';go_simp;try with_reducible rfl)
           try simp only [Act.put,zA,zB,zC]
           refine hQ 13 (v:=?_) rfl (y:=.inl ⟨by rfl,?_⟩) (h:=?_)
           rotate_left
           ·(intro w' hSw;have lS:=FRL.out w' hSw.1;have cS:=FRK.out w' hSw.1;have cT:=FRS.out w' hSw.1;obtain ⟨lU,cU,_,_⟩:=hSw.2.box;have hSS:=Ext.refl w';go_simp;try with_reducible rfl)
           try simp only [Act.put,zA,zB,zC]
           refine hQ 14 (v:=?_) rfl (y:=.inl ⟨by rfl,?_⟩) (h:=?_)
           rotate_left
           ·(intro w' hSw;have lS:=FRL.out w' hSw.1;have cS:=FRK.out w' hSw.1;have cT:=FRS.out w' hSw.1;obtain ⟨lU,cU,_,_⟩:=hSw.2.box;have hSS:=Ext.refl w';go_simp;try with_reducible rfl)
           try simp only [Act.put,zA,zB,zC]
           refine hQ 15 (v:=?_) rfl (y:=.inl ⟨by rfl,?_⟩) (h:=?_)
           rotate_left
           ·(intro w' hSw;have lS:=FRL.out w' hSw.1;have cS:=FRK.out w' hSw.1;have cT:=FRS.out w' hSw.1;obtain ⟨lU,cU,_,_⟩:=hSw.2.box;have hSS:=Ext.refl w';go_simp;try with_reducible rfl)
           try simp only [Act.put,zA,zB,zC]
           refine hQ 16 (v:=?_) rfl (y:=.inl ⟨by rfl,?_⟩) (h:=?_)
           rotate_left
           ·(intro w' hSw;have lS:=FRL.out w' hSw.1;have cS:=FRK.out w' hSw.1;have cT:=FRS.out w' hSw.1;obtain ⟨lU,cU,_,_⟩:=hSw.2.box;have hSS:=Ext.refl w';go_simp;try with_reducible rfl)
           try simp only [Act.put,zA,zB,zC]
           refine hQ 17 (v:=?_) rfl (y:=.inl ⟨by rfl,?_⟩) (h:=?_)
           rotate_left
           ·(intro w' hSw;have lS:=FRL.out w' hSw.1;have cS:=FRK.out w' hSw.1;have cT:=FRS.out w' hSw.1;obtain ⟨lU,cU,_,_⟩:=hSw.2.box;have hSS:=Ext.refl w';go_simp;try with_reducible rfl)
           try simp only [Act.put,zA,zB,zC]
           refine hQ 18 (v:=?_) rfl (y:=.inl ⟨by rfl,?_⟩) (h:=?_)
           rotate_left
           ·(intro w' hSw;have lS:=FRL.out w' hSw.1;have cS:=FRK.out w' hSw.1;have cT:=FRS.out w' hSw.1;obtain ⟨lU,cU,_,_⟩:=hSw.2.box;have hSS:=Ext.refl w';go_simp;try with_reducible rfl)
           try simp only [Act.put,zA,zB,zC]
           refine wpAnyH_ready (rs:=[1,19]) (by kernel_rfl) (by simp) ?_
           refine AllReadyH.cons rfl (fun K hK=>?_) (AllReadyH.cons rfl (fun K hK=>?_) AllReadyH.nil)
           ·go_simp
            refine hK.out _ _ ?_ (fun hHeld2=>?_)
            ·exact hHeld
            clear hK K
            try simp only [Act.put,zA,zB,zC]
            refine wpAnyH_ready (rs:=[19]) (by kernel_rfl) (by simp) ?_
            refine AllReadyH.cons rfl (fun K hK=>?_) AllReadyH.nil
            go_simp
            refine hK.out _ _ ?_ (fun hHeld3=>?_)
            ·exact ⟨((Ext.alloc _ _).block fg HF10.out.2.2).trans hHeld.1,Hold.ext hHeld.2 (Ext.alloc _ _)⟩
            clear hK K
            try simp only [Act.put,zA,zB,zC]
            refine wpAnyH_ready (rs:=[20]) (by kernel_rfl) (by simp) ?_
            refine AllReadyH.cons rfl (fun K hK=>?_) AllReadyH.nil
            refine step_append_lies _ (by exact rfl) (.tmp 131) (.tmp 149) 42 (by exact rfl) (b4+1) 57 i1 (.agg #[.int .i64 0,.int .i64 0,.int .i64 0]) 3 24 Tryz.underlying42 hi1 hz0 hz1 hz2 rfl (by decide) (.slice a6 ln c6) ln (edCells L) (by exact rfl) (by exact own_ext HO.out ((Ext.refl w10).drew.alloc' _)) ⟨(w10).heap.size,0,none⟩ 1 1 [.int .i64 (xa:Int),.int .i64 (xb:Int),.int .i64 mo] (by exact rfl) rfl (by intro j u hj;exact news_ok w10 [_,_,_] _ j u hj) (edge_one _ _ _) (by decide) (by unfold maxLen;omega) (by omega) (by have:=HB4.out;simp;omega) _ rfl ?_
            rintro g8 c8 w8 hown8 hg8 hor8 hlt8
            have HP:=Lib.hid (NwI.push (t:=(xa,xb,mo)) HI.out ((Ext.refl w10).drew.alloc' _) (by rw [←HLN.out];exact hown8) hg8)
            have HA8:=Lib.hid (fun z (hz:z<(w10).heap.size) (hz4:z≠b4) (hze:(Value.slice a6 ln c6).ownBlock≠some z)=>NwI.apart (b4:=b4) (v6:=.slice (some ⟨g8,0,none⟩) (ln+1) c8) ((Ext.refl w10).drew.alloc' (.cells #[.int .i64 (xa:Int),.int .i64 (xb:Int),.int .i64 mo] 57)) hg8 hz hz4 hze)
            have HO8:=Lib.hid (fun z (hz:z<(w10).heap.size) (hze:(Value.slice a6 ln c6).ownBlock≠some z) (e:(Value.slice (some ⟨g8,0,none⟩) (ln+1) c8).ownBlock=some z)=>(show False from by
             simp [Value.ownBlock] at e
             subst e
             rcases hor8 with h | h
             ·exact hze h
             ·simp at h;omega))
            have HS8:=Lib.hid (fun z (hz:z<(w10).heap.size) (hze:(Value.slice a6 ln c6).ownBlock≠some z)=>(show w8.heap[z]?=(w10).heap[z]? from (hg8.block z (by simp;omega) (fun e=>hze e.symm)).trans (((Ext.refl w10).drew.alloc' _).block z hz)))
            clear hown8 hg8 hor8 hlt8
            refine hK.out _ _ ?_ (fun hHeld4=>?_)
            ·exact ⟨(HS8.out fg HF10.out.2.2 HF10.out.2.1).trans HF10.out.1,Hold.blk HE10.out (HS8.out _ HE10.out.lt HEO.out.2)⟩
            clear hK K
            try simp only [Act.put,List.setIfInBounds_toArray]
            obtain ⟨l8,c8',f8,_⟩:=HP.out.1.box
            have hx88:Ext w8 w8:=Ext.refl _
            refine hQ 21 (v:=?_) rfl (y:=.inl ⟨by rfl,?_⟩) (h:=?_)
            rotate_left
            ·(intro w' hSw;have lS:=FRL.out w' hSw.1;have cS:=FRK.out w' hSw.1;have cT:=FRS.out w' hSw.1;obtain ⟨lU,cU,_,_⟩:=hSw.2.box;have hSS:=Ext.refl w';go_simp;try with_reducible rfl)
            simp only [Act.put]
            refine wpAnyH_ready (rs:=[22]) (by kernel_rfl) (by simp) ?_
            refine AllReadyH.cons rfl (fun K hK=>?_) AllReadyH.nil
            go_simp
            refine hK.out _ _ ?_ (fun hHeld5=>?_)
            ·exact ⟨(HA8.out fg HF10.out.2.2 HB9.out.1 HF10.out.2.1).1.trans HF10.out.1,Hold.blk HE10.out (HA8.out _ HE10.out.lt HEO.out.1 HEO.out.2).1⟩
            clear hK K
            try simp only [Act.put,zA,zB,zC]
            refine wpAnyH_done (by kernel_rfl) ?_ _
            clear l8 c8' f8 hx88
            clear hHeld hHeld2 hHeld3 hHeld4
            have HP2:=Lib.hid HP.out.2
            go_wp2_with fail
            go_roundg (T.en k - (i+1))
            case rel=>exact ⟨i+1,_,by omega,rfl,by go_num,by rw [HND.out];exact HP2.out,hHeld5.1,fun e=>HO8.out fg HF10.out.2.2 HF10.out.2.1 e⟩
            case measure=>omega
           ·go_simp
            refine hK.out _ _ ?_ (fun hHeld2=>?_)
            ·exact ⟨((Ext.alloc _ _).block fg HF10.out.2.2).trans hHeld.1,Hold.ext hHeld.2 (Ext.alloc _ _)⟩
            clear hK K
            try simp only [Act.put,zA,zB,zC]
            refine wpAnyH_ready (rs:=[1]) (by kernel_rfl) (by simp) ?_
            refine AllReadyH.cons rfl (fun K hK=>?_) AllReadyH.nil
            go_simp
            refine hK.out _ _ ?_ (fun hHeld3=>?_)
            ·exact hHeld2
            clear hK K
            try simp only [Act.put,zA,zB,zC]
            refine wpAnyH_ready (rs:=[20]) (by kernel_rfl) (by simp) ?_
            refine AllReadyH.cons rfl (fun K hK=>?_) AllReadyH.nil
            refine step_append_lies _ (by exact rfl) (.tmp 131) (.tmp 149) 42 (by exact rfl) (b4+1) 57 i1 (.agg #[.int .i64 0,.int .i64 0,.int .i64 0]) 3 24 Tryz.underlying42 hi1 hz0 hz1 hz2 rfl (by decide) (.slice a6 ln c6) ln (edCells L) (by exact rfl) (by exact own_ext HO.out ((Ext.refl w10).drew.alloc' _)) ⟨(w10).heap.size,0,none⟩ 1 1 [.int .i64 (xa:Int),.int .i64 (xb:Int),.int .i64 mo] (by exact rfl) rfl (by intro j u hj;exact news_ok w10 [_,_,_] _ j u hj) (edge_one _ _ _) (by decide) (by unfold maxLen;omega) (by omega) (by have:=HB4.out;simp;omega) _ rfl ?_
            rintro g8 c8 w8 hown8 hg8 hor8 hlt8
            have HP:=Lib.hid (NwI.push (t:=(xa,xb,mo)) HI.out ((Ext.refl w10).drew.alloc' _) (by rw [←HLN.out];exact hown8) hg8)
            have HA8:=Lib.hid (fun z (hz:z<(w10).heap.size) (hz4:z≠b4) (hze:(Value.slice a6 ln c6).ownBlock≠some z)=>NwI.apart (b4:=b4) (v6:=.slice (some ⟨g8,0,none⟩) (ln+1) c8) ((Ext.refl w10).drew.alloc' (.cells #[.int .i64 (xa:Int),.int .i64 (xb:Int),.int .i64 mo] 57)) hg8 hz hz4 hze)
            have HO8:=Lib.hid (fun z (hz:z<(w10).heap.size) (hze:(Value.slice a6 ln c6).ownBlock≠some z) (e:(Value.slice (some ⟨g8,0,none⟩) (ln+1) c8).ownBlock=some z)=>(show False from by
             simp [Value.ownBlock] at e
             subst e
             rcases hor8 with h | h
             ·exact hze h
             ·simp at h;omega))
            have HS8:=Lib.hid (fun z (hz:z<(w10).heap.size) (hze:(Value.slice a6 ln c6).ownBlock≠some z)=>(show w8.heap[z]?=(w10).heap[z]? from (hg8.block z (by simp;omega) (fun e=>hze e.symm)).trans (((Ext.refl w10).drew.alloc' _).block z hz)))
            clear hown8 hg8 hor8 hlt8
            refine hK.out _ _ ?_ (fun hHeld4=>?_)
            ·exact ⟨(HS8.out fg HF10.out.2.2 HF10.out.2.1).trans HF10.out.1,Hold.blk HE10.out (HS8.out _ HE10.out.lt HEO.out.2)⟩
            clear hK K
            try simp only [Act.put,List.setIfInBounds_toArray]
            obtain ⟨l8,c8',f8,_⟩:=HP.out.1.box
            have hx88:Ext w8 w8:=Ext.refl _
            refine hQ 21 (v:=?_) rfl (y:=.inl ⟨by rfl,?_⟩) (h:=?_)
            rotate_left
            ·(intro w' hSw;have lS:=FRL.out w' hSw.1;have cS:=FRK.out w' hSw.1;have cT:=FRS.out w' hSw.1;obtain ⟨lU,cU,_,_⟩:=hSw.2.box;have hSS:=Ext.refl w';go_simp;try with_reducible rfl)
            simp only [Act.put]
            refine wpAnyH_ready (rs:=[22]) (by kernel_rfl) (by simp) ?_
            refine AllReadyH.cons rfl (fun K hK=>?_) AllReadyH.nil
            go_simp
            refine hK.out _ _ ?_ (fun hHeld5=>?_)
            ·exact ⟨(HA8.out fg HF10.out.2.2 HB9.out.1 HF10.out.2.1).1.trans HF10.out.1,Hold.blk HE10.out (HA8.out _ HE10.out.lt HEO.out.1 HEO.out.2).1⟩
            clear hK K
            try simp only [Act.put,zA,zB,zC]
            refine wpAnyH_done (by kernel_rfl) ?_ _
            clear l8 c8' f8 hx88
            clear hHeld hHeld2 hHeld3 hHeld4
            have HP2:=Lib.hid HP.out.2
            go_wp2_with fail
            go_roundg (T.en k - (i+1))
            case rel=>exact ⟨i+1,_,by omega,rfl,by go_num,by rw [HND.out];exact HP2.out,hHeld5.1,fun e=>HO8.out fg HF10.out.2.2 HF10.out.2.1 e⟩
            case measure=>omega
          ·have d3:(T.kind k i == 3)=false:=by simpa using h3
           have HL3:=Lib.hid (show T.toTr.needL (T.toTr.evsTo k (i+1))=T.toTr.needL (T.toTr.evsTo k i)++(if 0<i then [(T.toTr.num (k,i),T.toTr.num (k,i - 1))] else []) from by rw [HST.out,if_neg h3,List.append_nil])
           clear h3
           go_wp2_with fail
           go_roundg (T.en k - (i+1))
           case rel=>exact ⟨i+1,ev3,by omega,rfl,by go_num,by rw [HL3.out];exact HI3.out,HFB3.out,HEV3.out⟩
           case measure=>omega
        ·obtain rfl:i=T.en k:=by omega
         go_wp2_with fail
         go_roundg (T.n - (k+1))
         case rel=>exact ⟨k+1,ev2,by omega,rfl,by go_num,by rw [←Tr.evsTo_next];exact HI.out,HFB.out,HEV.out⟩
         case measure=>omega
      ·obtain rfl:k=T.n:=by omega
       obtain ⟨ea,ec,hea⟩:=own_form HI.out.own
       generalize (edgesW m w m++ndE (T.toTr.needL (T.toTr.evsTo T.n 0)) mo).length=eln at hea
       have HQ:=Lib.hid (show EdOwn wr W.heap.size ev (closureNet m w T.toTr.needs) from by
        have h1:=HI.out.own
        have h2:edgesW m w m++ndE (T.toTr.needL (T.toTr.evsTo T.n 0)) mo=closureNet m w T.toTr.needs:=by rw [HMO.out];rfl
        rw [h2] at h1
        exact (Que.own h1).mono (by have:=HB.out;have:=hx1.le;omega))
       have HBL:=Lib.hid (show ∀ g,ev.ownBlock=some g→g≠W.heap.size+1 from fun g e=>by have:=(own_lt HI.out.own g e).1;have:=HB.out;have:=HS1.out;omega)
       subst hea
       obtain ⟨l4,c4,f4,_⟩:=HI.out.h4.box
       have HK1:=Lib.hid (Hold.ext k1 hx1r)
       have HX0:=Lib.hid hx0r
       have hrr:Ext wr wr:=Ext.refl _
       go_wp2_with fail
       try simp only [Exit.inBlock,Exit.then]
       refine bodyPost_ret (snet_results _ _ _ _ _ rfl ((Hold.set (Hold.set HK1.out 0 _) 1 _).cell0 0) ((Hold.set (Hold.set HK1.out 0 _) 1 _).cell0 1)) rfl ?_
       refine ⟨(HX0.out.setCell (by show W.heap.size≤W.heap.size+1;omega) _).setCell (by show W.heap.size≤W.heap.size+1;omega) _,_,rfl,?_⟩
       refine HQ.out.same' ?_ fun g e=>?_
       ·simp only [World.size_setCell];exact Nat.le_refl _
       ·rw [Below.heap_setCell _ _ _ _ (show g≠W.heap.size+1 from HBL.out g e),Below.heap_setCell _ _ _ _ (show g≠W.heap.size+1 from HBL.out g e)]
end Go.Proofs.YtnknkkmdbnaglaaGreat
