/- Contracts and laws in plain Lean for SPos: group Vi. -/
import Derived.Test.YtnknkkmdbnaglaaGreatVh
import Derived.Lib.AppendZeros
import Derived.Test.YtnknkkmdbnaglaaGreatKb
import Derived.Test.YtnknkkmdbnaglaaGreatVc
set_option maxRecDepth 100000
namespace Go.Proofs.YtnknkkmdbnaglaaGreat
open Go.RowKit Go.Shelf
theorem growr_own {w:World} (n cap:Nat) (hc:n≤cap) (hm:cap≤maxLen):(w.drew.alloc (.cells (Builtin.zeroCells #[.slice none 0 0] n++Builtin.zeroCells #[.slice none 0 0] (cap - n)) 28)).ownsRow w.heap.size 28 1 (.slice (some ⟨w.heap.size,0,none⟩) 0 cap) 0 []:=by
 refine ⟨rfl,.inr ⟨w.heap.size,cap,Builtin.zeroCells #[.slice none 0 0] n++Builtin.zeroCells #[.slice none 0 0] (cap - n),rfl,Nat.le_refl _,?_,Nat.zero_le _,hm,?_,by simp⟩⟩
 ·show (w.heap.push _)[w.heap.size]?=_
  simp
 ·rw [Array.size_append,size_zeroCells,size_zeroCells];simp;omega
set_option maxHeartbeats 1000000 in
theorem growr_any (n : Nat) (hn : n ≤ 1000000) (w : World) :
    Calls Tryz.prog 239 #[.slice none 0 0,.int .i64 n] w fun e w'=>∃ v,e=.returned v∧w'.ownsRow w.heap.size 28 1 v 0 []∧Ext w w':=by
 obtain ⟨j0,hj0,hy0,hy1,hy2⟩:=info_parts infoInts1
 have d0:decide ((n:Int)<0)=false:=decide_eq_false (by omega)
 by_cases h0:n=0
 ·subst h0
  go_enter Tryz.func239,Tryz.ntmps239
  go_wp2_with fail
  go_ret
  exact ⟨_,rfl,World.ownsRow_nil _ _ _ _,Ext.refl _⟩
 ·have d1:decide ((0:Int)<(n:Int))=true:=decide_eq_true (by omega)
  have hr:=fun W=>Lib.run_append_nil_zeros (P:=Tryz.prog) W 33 3 33 28 j0 (.slice none 0 0) .i64 .i64 Tryz.underlying33 Tryz.underlying3 hj0 hy0 n (by omega) (by rw [hy1];omega) (by omega) (by rw [hy2];omega)
  go_enter Tryz.func239,Tryz.ntmps239
  go_wp2_with (at_builtin;refine Lib.wpList_append_run _ rfl _ _ 33 3 rfl (.slice none 0 0) (.int .i64 n) rfl rfl _ _ (hr _) ?_)
  go_ret
  exact ⟨_,rfl,growr_own n _ (grownCap_ge _ _ _ _) (grownCap_le_maxLen _ _ _ _ (by unfold maxLen;omega)),(Ext.alloc _ _).drew⟩
theorem RowsH.ext {w w':World} {B:Nat} {v:Value} {R:List Row} (h:RowsH w B v R) (e:Ext w w'):RowsH w' B v R:=by
 rcases h with h1 | ⟨g,off,cap,h1,h2,h3,h4,h5⟩
 ·exact .inl h1
 ·exact .inr ⟨g,off,cap,h1,h2,h3,Nat.lt_of_lt_of_le h4 e.le,fun j hj=>⟨e.cell (h5 j hj).1,(e.frozen (p:=⟨g,off+j,none⟩) h4).trans (h5 j hj).2⟩⟩
theorem RowsH.src {w:World} {B:Nat} {v:Value} {R:List Row} (h:RowsH w B v R):Src Tryz.prog 1 33 v R.length (R.map Row.val) w:=by
 have h1:∀ u∈R.map Row.val,u.oneCell'=true:=fun u hu=>by obtain ⟨r,_,rfl⟩:=List.mem_map.1 hu;rfl
 rcases h with ⟨rfl,a,c,rfl⟩ | ⟨g,off,cap,rfl,_,_,_,h5⟩
 ·cases a with
  | none => exact Src.ofNil w Tryz.underlying33 _
  | some a => exact Src.ofSlice w Tryz.underlying33 a 0 _ [] (by simp) (by intro _ _ h';simp at h') (by intro u hu;cases hu)
 ·refine Src.ofSlice w Tryz.underlying33 ⟨g,off,none⟩ R.length cap _ (by simp) (fun j u hu=>?_) h1
  have hj:j<R.length:=by
   have h2:=(List.getElem?_eq_some_iff.1 hu).1
   simpa using h2
  rw [Addr.add_lit,(h5 j hj).1,←hu,List.getElem?_map,List.getElem?_eq_getElem hj];rfl
theorem flat_take {LV:List (Value × List Row)} {k:Nat} (hk:k<LV.length):(LV.take (k+1)).flatMap Prod.snd=(LV.take k).flatMap Prod.snd++LV[k].2:=by
 rw [List.take_add_one,List.getElem?_eq_getElem hk,List.flatMap_append];simp
theorem flat_take_le (LV:List (Value × List Row)) (k:Nat):((LV.take k).flatMap Prod.snd).length≤(LV.flatMap Prod.snd).length:=by
 conv=>rhs;rw [←List.take_append_drop k LV]
 rw [List.flatMap_append,List.length_append];omega
set_option maxHeartbeats 2000000 in
theorem kcat_any (w : World) (B : Nat) (v : Value) (LV : List (Value × List Row)) (hq : Que w B 1 v LV.length (LV.map Prod.fst)) (hlv : ∀ k (hk : k < LV.length), RowsH w B LV[k].1 LV[k].2 ∧ ∀ r ∈ LV[k].2, r.At w) (ht : (LV.flatMap Prod.snd).length ≤ 5000) :
    Calls Tryz.prog 193 #[v] w fun e w'=>Ext w w'∧∃ v',e=.returned v'∧RowsQ w' w.heap.size v' (LV.flatMap Prod.snd):=by
 obtain ⟨j0,hj0,hy0,hy1,hy2⟩:=info_parts infoInts1
 obtain ⟨va,vc,g,off,hv,hc0,hn⟩:∃ va vc g off,v=.slice va LV.length vc∧(0<LV.length→va=some ⟨g,off,none⟩∧g<w.heap.size∧∀ k (hk:k<LV.length),w.cell? ⟨g,off+k,none⟩=some LV[k].1)∧LV.length≤maxLen:=by
  rcases hq.val with ⟨ao,h1,h2,_⟩ | ⟨g,off,cap,h1,_,h2,h3,h4,h5,_⟩
  ·exact ⟨ao,0,0,0,by rw [h1,h2],fun h=>by omega,by rw [h2];exact Nat.zero_le _⟩
  ·exact ⟨_,cap,g,off,h1,fun _=>⟨rfl,h2,fun k hk=>by rw [h5 k (by omega),List.getElem?_map,List.getElem?_eq_getElem hk];rfl⟩,Nat.le_trans h3 h4⟩
 subst hv
 obtain ⟨n,hn'⟩:∃ z,z=LV.length:=⟨_,rfl⟩
 have HN:=Lib.hid hn'
 have HC:=Lib.hid hc0
 have HL:=Lib.hid hlv
 have HT:=Lib.hid ht
 have hfl:∀ k,((LV.take k).flatMap Prod.snd).length≤5000:=fun k=>Nat.le_trans (flat_take_le _ _) ht
 have HF:=Lib.hid hfl
 rw [←hn'] at hn ⊢
 unfold maxLen at hn
 have hww:Ext w w:=Ext.refl _
 clear hq hc0 hlv ht hfl hn'
 go_enter Tryz.func193,Tryz.ntmps193
 go_wp2_with fail
 go_loopg [3,11] n (fun gg v3 v11 wr=>∃ k:Nat,k≤n∧gg=n - k∧v11=.int .i64 k∧v3=.int .i64 (((LV.take k).flatMap Prod.snd).length:Nat)∧w=wr)
 case atStart=>exact ⟨0,by omega,rfl,rfl,rfl,rfl⟩
 case round=>
  obtain ⟨k,hk,rfl,rfl,rfl,rfl⟩:=hrel
  obtain ⟨tl,htl⟩:∃ z,z=((LV.take k).flatMap Prod.snd).length:=⟨_,rfl⟩
  have htl5:tl≤5000:=by rw [htl];exact HF.out k
  have HTL:=Lib.hid htl
  rw [←htl]
  clear htl
  by_cases hlt:k<n
  ·have hlt':(k:Int)<(n:Int):=by omega
   have hkL:k<LV.length:=by rw [←HN.out];exact hlt
   have HCC:=Lib.hid (HC.out (by omega))
   obtain rfl:=HCC.out.1
   have vb:∀ w',Ext w w'→g<w'.heap.size:=fun w' x=>Nat.lt_of_lt_of_le HCC.out.2.1 x.le
   obtain ⟨ra,rc,hv⟩:=(HL.out k hkL).1.slice
   obtain ⟨rl,hrl⟩:∃ z,z=LV[k].2.length:=⟨_,rfl⟩
   have sk:∀ w',Ext w w'→w'.cell? ⟨g,off+k,none⟩=some (.slice ra rl rc):=fun w' x=>by rw [x.cell (HCC.out.2.2 k hkL),hv,hrl]
   have HK1:=Lib.hid (show tl+rl=((LV.take (k+1)).flatMap Prod.snd).length from by rw [flat_take hkL,List.length_append,←HTL.out,←hrl])
   have h5:tl+rl≤5000:=by rw [HK1.out];exact HF.out _
   clear hv hrl
   go_wp2_with fail
   go_roundg (n - (k+1))
   case rel=>exact ⟨k+1,by omega,rfl,by go_num,by rw [←HK1.out];go_num,rfl⟩
   case measure=>omega
  ·obtain rfl:k=n:=by omega
   have hGr:=growr_any tl (by omega) w
   go_wp2_with (go_at_call 239;refine hGr.mono ?_;rintro e w2 ⟨v2,rfl,hown2,hx2⟩;have HO2:=Lib.hid (Que.own hown2);clear hown2)
   clear hGr
   go_loopg [6,27] k (fun gg v6 v27 wi=>∃ i:Nat,i≤k∧gg=k - i∧v27=.int .i64 i∧Ext w wi∧RowsQ wi w.heap.size v6 ((LV.take i).flatMap Prod.snd))
   case atStart=>exact ⟨0,by omega,rfl,rfl,hx2,⟨HO2.out,fun r hr=>(by cases hr)⟩⟩
   case round=>
    obtain ⟨i,hi,rfl,rfl,hxi,hq⟩:=hrel
    have hii:Ext wr wr:=Ext.refl _
    obtain ⟨ti,hti⟩:∃ z,z=((LV.take i).flatMap Prod.snd).length:=⟨_,rfl⟩
    have hti5:ti≤5000:=by rw [hti];exact HF.out i
    obtain ⟨a6,c6,hv6⟩:=hq.1.slice
    subst hv6
    rw [←hti] at hq ⊢
    have HTI:=Lib.hid hti
    have HQ:=Lib.hid hq
    clear hq hti
    by_cases hlt:i<k
    ·have hlt':(i:Int)<(k:Int):=by omega
     have hkL:i<LV.length:=by rw [←HN.out];exact hlt
     have HCC:=Lib.hid (HC.out (by omega))
     obtain rfl:=HCC.out.1
     have vb:∀ w',Ext w w'→g<w'.heap.size:=fun w' x=>Nat.lt_of_lt_of_le HCC.out.2.1 x.le
     obtain ⟨ra,rc,hv⟩:=(HL.out i hkL).1.slice
     obtain ⟨rl,hrl⟩:∃ z,z=LV[i].2.length:=⟨_,rfl⟩
     have sk:∀ w',Ext w w'→w'.cell? ⟨g,off+i,none⟩=some (.slice ra rl rc):=fun w' x=>by rw [x.cell (HCC.out.2.2 i hkL),hv,hrl]
     have HSRC:=Lib.hid (show Src Tryz.prog 1 33 (.slice ra rl rc) rl (LV[i].2.map Row.val) wr from by
      have h1:=((HL.out i hkL).1.ext hxi).src
      rw [hv,←hrl] at h1;exact h1)
     have HK1:=Lib.hid (show ti+rl=((LV.take (i+1)).flatMap Prod.snd).length from by rw [flat_take hkL,List.length_append,←HTI.out,←hrl])
     have h5:ti+rl≤5000:=by rw [HK1.out];exact HF.out _
     clear hv hrl
     go_wp2_with (at_builtin;go_loud (refine wpList_append_que _ rfl _ _ 33 33 rfl (base:=w.heap.size) (e:=28) (size:=1) j0 (.slice none 0 0) 24 Tryz.underlying33 hj0 hy0 hy1 hy2 rfl rfl (v:=.slice a6 ti c6) (n:=ti) (xs:=((LV.take i).flatMap Prod.snd).map Row.val) (by have h1:=HQ.out.1;rw [←HTI.out] at h1;exact h1) hxi.le (.slice ra rl rc) rl (LV[i].2.map Row.val) rfl HSRC.out (by unfold maxLen;omega) (by omega) ?_;rintro v7 w7 hq7 hg7 -;have H7:=Lib.hid (And.intro hq7 hg7);clear hq7 hg7))
     go_roundg (k - (i+1))
     case rel=>
      have hx7:=(Below.refl w.heap.size wr).grown H7.out.2 hxi.le (fun g e=>HQ.out.1.block g e)
      refine ⟨i+1,by omega,rfl,by go_num,Below.trans hxi hx7,?_,fun r hr=>?_⟩
      ·rw [←HK1.out,flat_take hkL,List.map_append];exact H7.out.1
      ·obtain ⟨x,hx,hr'⟩:=List.mem_flatMap.1 hr
       obtain ⟨j,hj,rfl⟩:=List.getElem_of_mem (List.mem_of_mem_take hx)
       exact ((HL.out j hj).2 r hr').ext (Below.trans hxi hx7)
     case measure=>omega
    ·obtain rfl:i=k:=by omega
     have HFL:=Lib.hid (show (LV.take i).flatMap Prod.snd=LV.flatMap Prod.snd from by rw [List.take_of_length_le (by rw [HN.out];exact Nat.le_refl _)])
     go_wp2_with fail
     go_ret
     exact ⟨hxi,_,rfl,by rw [←HFL.out];exact HQ.out⟩
def KlistPost (T:Tr) (w:World) (e:Ending) (w':World):Prop:=Ext w w'∧∃ (v:Value) (c:Int),e=.returned (.tuple #[v,.int .i64 c])∧((c=0∧∃ R,RowsQ w' w.heap.size v R∧IsCuts T (R.map Row.l)∧R.length≤5000∧∀ x∈R,w.heap.size≤x.g)∨
 (c=16∧∃ L:List (List Nat),L.Pairwise (fun a b=>befP T.n (fn a) (fn b))∧(∀ l∈L,CutL T l)∧5000<L.length))
set_option maxHeartbeats 2000000 in
theorem klist_any (w:World) (T:TM) (hT:T.At w) (hV:T.toTr.Valid):Calls Tryz.prog 133 #[T.val] w (KlistPost T.toTr w):=by
 unfold KlistPost
 have hlv:=Lib.hid (fun W (x:Ext w W)=>klev_any W T (hT.ext x) hV)
 have hmp:∀ {w2:World} {LV:List (Value × List Row)} {B:Nat} {o:Option Nat},(∀ k (hk:k<LV.length),LvOk T.toTr w2 B o k LV[k])→∀ k (hk:k<LV.length),RowsH w2 B LV[k].1 LV[k].2∧∀ r∈LV[k].2,r.At w2:=fun h k hk=>⟨(h k hk).h,fun r hr=>((h k hk).a r hr).1⟩
 simp only [TM.val] at hlv ⊢
 clear hT hV
 go_enter Tryz.func133,Tryz.ntmps133
 go_upto_region 1 with fail
 refine boxed1 (w:=w) (G:=fun x=>Code.wp _ _ _ _ x) ?_
 intro w1 hx1 hs1 ⟨l0,c0,_,_⟩
 have hx11:Ext w1 w1:=Ext.refl _
 clear hs1
 go_upto_region 2 with (go_at_call 192;refine (hlv.out w1 hx1).mono ?_;rintro e w2 ⟨hx2,hp⟩;rcases hp with ⟨v,LV,rfl,hq,hl,hc,ht⟩ | ⟨rfl,hL⟩)
 ·have hcat:=kcat_any w2 w1.heap.size v LV hq (hmp hl) ht
  have hgg:∀ x∈LV.flatMap Prod.snd,w.heap.size≤x.g:=fun x hx=>by
   obtain ⟨y,hy,hx'⟩:=List.mem_flatMap.1 hx
   obtain ⟨j,hj,rfl⟩:=List.getElem_of_mem hy
   exact Nat.le_trans hx1.le ((hl j hj).g x hx')
  have HCU:=Lib.hid (And.intro hc (And.intro ht hgg))
  clear hmp hlv hq hl hc ht hgg
  go_wp2_with (go_at_call 193;refine hcat.mono ?_;rintro e w3 ⟨hx3,v3,rfl,hq3⟩)
  go_ret2
  exact ⟨(hx1.trans hx2).trans hx3,v3,0,rfl,.inl ⟨rfl,_,hq3.mono (hx1.trans hx2).le,HCU.out.1,HCU.out.2.1,HCU.out.2.2⟩⟩
 ·have hcat:=kcat_any w2 0 (.slice none 0 0) [] (Que.nil _ _ _) (fun k hk=>absurd hk (Nat.not_lt_zero _)) (Nat.zero_le _)
  have HL:=Lib.hid hL
  clear hmp hlv hL
  go_wp2_with (go_at_call 193;refine hcat.mono ?_;rintro e w3 ⟨hx3,v3,rfl,hq3⟩)
  go_ret2
  exact ⟨(hx1.trans hx2).trans hx3,v3,16,rfl,.inr ⟨rfl,HL.out⟩⟩
set_option maxHeartbeats 2000000 in
theorem kList_any (w:World) (T:TM) (hT:T.At w) (hV:T.toTr.Valid):Calls Tryz.prog 61 #[T.val] w (KlistPost T.toTr w):=by
 have hls:=Lib.hid (fun W (x:Ext w W)=>klist_any W T (hT.ext x) hV)
 simp only [TM.val] at hls ⊢
 clear hT hV
 go_enter Tryz.func61,Tryz.ntmps61
 go_upto_region 1 with fail
 refine boxed1 (w:=w) (G:=fun x=>Code.wp _ _ _ _ x) ?_
 intro w1 hx1 hs1 ⟨l0,c0,_,_⟩
 have hx11:Ext w1 w1:=Ext.refl _
 clear hs1
 go_wp2_with (go_at_call 133;refine (hls.out w1 hx1).mono ?_;rintro e w2 ⟨hx2,v,c,rfl,hp⟩)
 go_ret2
 refine ⟨hx1.trans hx2,v,c,rfl,?_⟩
 rcases hp with ⟨h0,R,h1,h2,h3,h4⟩ | hp
 ·exact .inl ⟨h0,R,h1.mono hx1.le,h2,h3,fun x hx=>Nat.le_trans hx1.le (h4 x hx)⟩
 ·exact .inr hp
set_option maxHeartbeats 2000000 in
theorem seq1_any (w : World) (S : SumM) (hS : S.At w) (k : Int) (b : Nat) (a : Option Addr) (g o cap : Nat) (c : Nat → Nat) (hC : CutAt w S.T.n a g o c) (hc : ∀ p, p < S.T.n → c p ≤ S.T.en p) (ta : Option Addr) (tn tc : Nat) (htv : S.tv = .slice ta tn tc)
    (h0:Hold w b #[S.T.sl,S.tv,.slice S.wa S.m S.wc,.int .i64 S.b]) (h1:Hold w (b+1) #[.int .i64 k]) :
    Calls Tryz.prog 203 #[.slice a S.T.n cap,.pointer (some ⟨b,0,none⟩),.pointer (some ⟨b+1,0,none⟩)] w (BoolPost (S.b+S.T.toTr.atC S.w c=k) w):=by
 have HAT:=fun W' (h:Ext w W')=>sat_any W' S (hS.ext h) a g o cap c (hC.ext h) hc
 obtain ⟨x,hx⟩:∃ z,z=S.b+S.T.toTr.atC S.w c:=⟨_,rfl⟩
 rw [←hx] at HAT ⊢
 obtain ⟨l0,c0,_,_⟩:=h0.box
 obtain ⟨l1,c1,_,_⟩:=h1.box
 have hat:=HAT w.drew (Ext.refl w).drew
 unfold SumM.val at hat
 simp only [TM.sl] at hat c0
 rw [htv] at hat c0
 have hww:Ext w w:=Ext.refl _
 clear HAT hx hS hC hc htv h0 h1
 generalize S.T.n=n at *
 generalize S.m=m at *
 generalize S.b=bb at *
 generalize S.T.a=ta0 at *
 generalize S.T.cap=tcap at *
 generalize S.wa=wa at *
 generalize S.wc=wc at *
 go_enter Tryz.func203,Tryz.ntmps203
 go_upto_region 1 with fail
 refine wp_region_held_drew (S:=fun w'=>Ext w w') (by kernel_rfl) (Ext.refl _).drew (fun hHeld=>?_)
 refine hQ 0 (v:=?_) rfl (y:=.inl ⟨by rfl,?_⟩) (h:=?_)
 rotate_left
 ·(intro w' hSw;(try dsimp only at hSw);have hSS:=Ext.refl w';go_simp;try with_reducible rfl)
 try simp only [Act.put,zA,zB,zC]
 refine hQ 1 (v:=?_) rfl (y:=.inl ⟨by rfl,?_⟩) (h:=?_)
 rotate_left
 ·(intro w' hSw;(try dsimp only at hSw);have hSS:=Ext.refl w';go_simp;try with_reducible rfl)
 try simp only [Act.put,zA,zB,zC]
 refine hQ 3 (v:=?_) rfl (y:=.inl ⟨by rfl,?_⟩) (h:=?_)
 rotate_left
 ·(intro w' hSw;(try dsimp only at hSw);have hSS:=Ext.refl w';go_simp;try with_reducible rfl)
 try simp only [Act.put,zA,zB,zC]
 refine wpAnyH_ready (rs:=[2]) (by kernel_rfl) (by simp) ?_
 refine AllReadyH.cons rfl (fun K hK=>?_) AllReadyH.nil
 go_simp
 go_at_call 87
 refine hat.mono ?_
 rintro e w2 ⟨rfl,hx2⟩
 have hxw2:Ext w w2:=(Ext.refl w).drew.trans hx2
 refine hK.out _ _ ?_ (fun hHeld2=>?_)
 ·exact hxw2
 clear hK K
 try simp only [Act.put,zA,zB,zC]
 refine hQ 4 (v:=?_) rfl (y:=.inl ⟨by rfl,?_⟩) (h:=?_)
 rotate_left
 ·(intro w' hSw;(try dsimp only at hSw);have hSS:=Ext.refl w';go_simp;try with_reducible rfl)
 try simp only [Act.put,zA,zB,zC]
 refine hQ 5 (v:=?_) rfl (y:=.inl ⟨by rfl,?_⟩) (h:=?_)
 rotate_left
 ·(intro w' hSw;(try dsimp only at hSw);have hSS:=Ext.refl w';go_simp;try with_reducible rfl)
 try simp only [Act.put,zA,zB,zC]
 refine wpAnyH_done (by kernel_rfl) ?_ _
 clear hHeld hHeld2 hat hx2
 go_wp2_with fail
 go_ret
 exact ⟨_,rfl,by simp,hxw2⟩
def EqN (T:TM) (b:Int) (u:Nat→Int) (k:Int):EqQ:=fun B m h kd a l c er w'=>
 (er=16∧m=0∧h=false∧kd=0∧a=none∧l=0∧∃ L:List (List Nat),L.Pairwise (fun a b=>befP T.n (fn a) (fn b))∧(∀ l∈L,CutL T.toTr l)∧5000<L.length)∨
 (er=0∧∃ L:List (List Nat),IsCuts T.toTr L∧L.length≤5000∧((m=1∧h=false∧kd=6∧a=none∧l=0∧∀ x∈L,b+T.toTr.atC u (fn x)≠k)∨
  (m=1∧h=true∧kd=1∧∃ (i:Nat) (hi:i<L.length) (g o:Nat),(∀ j (hj:j<L.length),j<i→b+T.toTr.atC u (fn L[j])≠k)∧b+T.toTr.atC u (fn L[i])=k∧l=T.n∧NumAt w' T.n a g o (natV (fn L[i]))∧B≤g)))
theorem NumAt.put8 {w:World} {n:Nat} {a:Option Addr} {g o:Nat} {v:Nat→Int} (h:NumAt w n a g o v) (b:Nat) (v0 v1 v2 v3 v4 v5 v6 v7:Value) (hp:g≠b):NumAt (Go.Proofs.YtnknkkmdbnaglaaGreat.put8 w b v0 v1 v2 v3 v4 v5 v6 v7) n a g o v:=
 h.blk (put8_other _ _ _ _ _ _ _ _ _ _ _ hp) (Nat.le_of_eq (put8_size _ _ _ _ _ _ _ _ _ _).symm)
theorem EqN.put8 {T : TM} {b : Int} {u : Nat → Int} {k : Int} (B : Nat) (m : Int) (h : Bool) (kd : Int) (a : Option Addr) (l c : Nat) (er : Int) (w1 : World) (b1 : Nat) (v0 v1 v2 v3 v4 v5 v6 v7 : Value) (hb : b1 < B) (hq : EqN T b u k B m h kd a l c er w1) :
    EqN T b u k B m h kd a l c er (Go.Proofs.YtnknkkmdbnaglaaGreat.put8 w1 b1 v0 v1 v2 v3 v4 v5 v6 v7):=by
 rcases hq with h1 | ⟨h1,L,h2,h3,h4 | ⟨e1,e2,e3,i,hi,g,o,e4,e5,e6,e7,e8⟩⟩
 ·exact .inl h1
 ·exact .inr ⟨h1,L,h2,h3,.inl h4⟩
 ·exact .inr ⟨h1,L,h2,h3,.inr ⟨e1,e2,e3,i,hi,g,o,e4,e5,e6,e7.put8 _ _ _ _ _ _ _ _ _ (by omega),e8⟩⟩
set_option maxHeartbeats 2000000 in
theorem seqn_any (W : World) (S : SumM) (hS : S.At W) (k : Int) (hu : ¬ UnitW S.w S.m) (ta : Option Addr) (tn tc : Nat) (htv : S.tv = .slice ta tn tc) :
    Calls Tryz.prog 145 #[S.val,.int .i64 k] W (EqlPost (EqN S.T S.b S.w k) W):=by
 have HUN:=Lib.hid (fun W' (h:Ext W W')=>sunit_any W' S (hS.ext h))
 have hr:(!anyB (fun i=>decide (1<iabs (S.w i))) S.m)=false:=by
  rw [Bool.eq_false_iff];exact fun h=>hu (unitW_iff.1 h)
 rw [hr] at HUN
 have HLS:=Lib.hid (fun W' (h:Ext W W')=>kList_any W' S.T (hS.T.ext h) hS.V)
 have HV:=Lib.hid hS.V
 have HCL:=Lib.hid (fun W' (h:Ext W W') b (r:Row) (hr:r.At W') (hc:CutL S.T.toTr r.l) (h0:Hold W' b #[S.T.sl,S.tv,.slice S.wa S.m S.wc,.int .i64 S.b]) (h1:Hold W' (b+1) #[.int .i64 k])=>
  (show Calls Tryz.prog 203 #[r.val,.pointer (some ⟨b,0,none⟩),.pointer (some ⟨b+1,0,none⟩)] W' (BoolPost (S.b+S.T.toTr.atC S.w (fn r.l)=k) W') from by
   unfold Row.At at hr
   rw [hc.1] at hr
   unfold Row.val
   rw [hc.1]
   exact seq1_any W' S (hS.ext h) k b r.a r.g r.o r.c (fn r.l) ⟨hr.pa,hr.pb,hr.c⟩ hc.2.le ta tn tc htv h0 h1))
 obtain ⟨T,tv,wa,wg,wo,wc,wt,b⟩:=S
 simp only [SumM.val,TM.sl,TM.val] at *
 generalize SumM.m ⟨T,tv,wa,wg,wo,wc,wt,b⟩=m at *
 subst htv
 obtain ⟨ta0,hta0⟩:∃ z,z=T.a:=⟨_,rfl⟩
 rw [←hta0] at HUN HLS HCL ⊢
 clear hS hu hta0 hr
 go_enter Tryz.func145,Tryz.ntmps145
 go_upto_region 1 with fail
 refine boxed3 (w:=W) (G:=fun x=>Code.wp _ _ _ _ x) ?_
 intro w1 hx1 hs1 ⟨l0,c0,_,k0⟩ ⟨l1,c1,_,k1⟩ ⟨l2,c2,f2,k2⟩
 have hx11:Ext w1 w1:=Ext.refl _
 have HKB:=Lib.hid (show Hold w1 (W.heap.size+1+1) #[.int .i64 0,.bool false,.int .i64 0,.slice none 0 0,.slice none 0 0,.slice none 0 0,.slice none 0 0,.int .i64 0] from k2)
 have HK0:=Lib.hid (And.intro (show Hold w1 W.heap.size #[.slice ta0 T.n T.cap,.slice ta tn tc,.slice wa m wc,.int .i64 b] from k0) (show Hold w1 (W.heap.size+1) #[.int .i64 k] from k1))
 clear k2 k0 k1
 have HS1:=Lib.hid hs1
 clear hs1
 go_upto_region 4 with (go_at_call 89;refine (HUN.out w1 hx1).mono ?_;rintro e w2 ⟨rfl,hx2⟩)
 have hxw2:=hx1.trans hx2
 go_upto_region 5 with (go_at_call 61;refine (HLS.out w2 hxw2).mono ?_;rintro e w3 ⟨hx3,v3,c3,rfl,hp⟩)
 have hx13:=hx2.trans hx3
 have hxw3:=hxw2.trans hx3
 have HP:=Lib.hid hp
 clear hp
 rcases HP.out with ⟨rfl,R,hq,hcu,hR5,hgg⟩ | ⟨rfl,hL⟩
 ·have HQ:=Lib.hid hq
  have HCU:=Lib.hid (And.intro hcu (And.intro hR5 hgg))
  obtain ⟨a3,c3',rfl⟩:=hq.1.slice
  obtain ⟨g,off,hv⟩:∃ g off,0<R.length→a3=some ⟨g,off,none⟩∧g<w3.heap.size∧∀ j (hj:j<R.length),w3.cell? ⟨g,off+j,none⟩=some R[j].val:=by
   rcases hq.1.val with ⟨ao,h1,h2,_⟩ | ⟨g,off,cap,h1,_,h2,_,_,h5,_⟩
   ·exact ⟨0,0,fun h=>by omega⟩
   ·refine ⟨g,off,fun _=>⟨by injection h1,h2,fun j hj=>?_⟩⟩
    rw [h5 j (by omega),List.getElem?_map,List.getElem?_eq_getElem hj];rfl
  have HVV:=Lib.hid hv
  have hix:=idx_Ints w3 a3 g off R.length c3' (fun j=>(R.getD j default).val) 203 #[.pointer (some ⟨W.heap.size,0,none⟩),.pointer (some ⟨W.heap.size+1,0,none⟩)] (fun j=>decide (b+T.toTr.atC wt (fn (R.getD j default).l)=k)) (by omega) (fun h=>(hv h).1) (fun w' x j hj=>by rw [getD_at hj];exact x.cell ((hv (by omega)).2.2 j hj)) (enters_of Tryz.func203 (by kernel_rfl) rfl) (fun j hj w' x=>by
   have h1:=HCL.out w' (hxw3.trans x) W.heap.size (R.getD j default) ((hq.2 _ (getD_mem hj)).ext x) ((hcu.2 _).1 (List.mem_map.2 ⟨_,getD_mem hj,rfl⟩)) (HK0.out.1.ext (hx13.trans x)) (HK0.out.2.ext (hx13.trans x))
   exact h1.mono fun e w'' ⟨bb,he,hb,hx⟩=>⟨by rw [he];congr 2;by_cases hh:b+T.toTr.atC wt (fn (R.getD j default).l)=k;rw [hb.2 hh,decide_eq_true hh];rw [decide_eq_false hh];cases bb;rfl;exact absurd (hb.1 rfl) hh,hx⟩)
  clear hv hq hcu hR5 hgg
  obtain ⟨ln,hln⟩:∃ z,z=R.length:=⟨_,rfl⟩
  have HLN:=Lib.hid hln
  have hl5:ln≤5000:=by rw [hln];exact HCU.out.2.1
  rcases noneB_or_first (fun j=>decide (b+T.toTr.atC wt (fn (R.getD j default).l)=k)) R.length with hno | ⟨i,hi,hpi,hfi⟩
  ·rw [idxI_none hno] at hix
   have HNO:=Lib.hid hno
   rw [←hln] at hix ⊢
   have HNA:=Lib.hid (show ∀ x∈R.map Row.l,b+T.toTr.atC wt (fn x)≠k from fun x hx=>by
    obtain ⟨r,hr,rfl⟩:=List.mem_map.1 hx
    obtain ⟨j,hj,rfl⟩:=List.getElem_of_mem hr
    have h1:=HNO.out j hj
    (try dsimp only at h1)
    rw [getD_at hj] at h1
    exact of_decide_eq_false h1)
   have HK3:=Lib.hid (Hold.ext HKB.out hx13)
   clear hno hln
   go_upto_region 8 with (go_at_call 202;refine hix.mono ?_;rintro e w4 ⟨rfl,hx4⟩)
   have HK4:=Lib.hid (Hold.all8 (Hold.ext HK3.out hx4) (.int .i64 1) (.bool false) (.int .i64 6) (.slice none 0 0) (.slice none 0 0) (.slice none 0 0) (.slice none 0 0) (.int .i64 0))
   have HX4:=Lib.hid (hxw3.trans hx4)
   have hx14:=hx13.trans hx4
   clear hix
   go_wp2_with fail
   refine bodyPost_ret (eql_results _ _ (W.heap.size+1+1) _ _ _ _ _ _ _ _ _ rfl rfl HK4.out) rfl ?_
   exact ⟨HX4.out.put8 (by omega) _ _ _ _ _ _ _ _,1,false,6,none,0,0,0,rfl,Or.inr ⟨rfl,_,HCU.out.1,by rw [List.length_map];exact HCU.out.2.1,Or.inl ⟨rfl,rfl,rfl,rfl,rfl,HNA.out⟩⟩⟩
  ·rw [idxI_hit hi hpi hfi] at hix
   have HIT:=Lib.hid (And.intro hpi hfi)
   have hiR:=hi
   have HCC:=Lib.hid (HVV.out (by omega))
   obtain rfl:=HCC.out.1
   rw [←hln] at hix hi ⊢
   have hi':(i:Int)<(ln:Int):=by omega
   have vb:∀ w',Ext w3 w'→g<w'.heap.size:=fun w' x=>Nat.lt_of_lt_of_le HCC.out.2.1 x.le
   have HCI:=Lib.hid ((HCU.out.1.2 R[i].l).1 (List.mem_map.2 ⟨_,List.getElem_mem hiR,rfl⟩))
   obtain ⟨ra,hra⟩:∃ z,z=R[i].a:=⟨_,rfl⟩
   obtain ⟨rc,hrc⟩:∃ z,z=R[i].c:=⟨_,rfl⟩
   have vc:∀ w',Ext w3 w'→w'.cell? ⟨g,off+i,none⟩=some (.slice ra T.n rc):=fun w' x=>by
    rw [x.cell (HCC.out.2.2 i hiR),hra,hrc]
    unfold Row.val
    rw [HCI.out.1]
   have HRA:=Lib.hid hra
   have HK3:=Lib.hid (Hold.ext HKB.out hx13)
   clear hpi hfi hln hra hrc
   go_upto_region 8 with (go_at_call 202;refine hix.mono ?_;rintro e w4 ⟨rfl,hx4⟩)
   clear hix
   go_wp2_with (go_at_call 143;refine (syes_any _ _ _ _).mono ?_;rintro e w9 ⟨rfl,hx9⟩;have HK9:=Lib.hid (Hold.all8 (Hold.ext HK3.out (hx4.trans hx9)) (.int .i64 1) (.bool true) (.int .i64 1) (.slice ra T.n rc) (.slice none 0 0) (.slice none 0 0) (.slice none 0 0) (.int .i64 0));have hx19:=hx13.trans (hx4.trans hx9))
   refine bodyPost_ret (eql_results _ _ (W.heap.size+1+1) _ _ _ _ _ _ _ _ _ rfl rfl HK9.out) rfl ?_
   refine ⟨((hxw3.trans hx4).trans hx9).put8 (by omega) _ _ _ _ _ _ _ _,1,true,1,ra,T.n,rc,0,rfl,Or.inr ⟨rfl,R.map Row.l,HCU.out.1,by rw [List.length_map];exact HCU.out.2.1,Or.inr ⟨rfl,rfl,rfl,i,by rw [List.length_map];exact hiR,R[i].g,R[i].o,fun j hj hji=>?_,?_,rfl,?_,?_⟩⟩⟩
   ·rw [List.getElem_map]
    have hj':j<R.length:=by omega
    have h1:=HIT.out.2 j hji
    (try dsimp only at h1)
    rw [getD_at hj'] at h1
    exact of_decide_eq_false h1
   ·rw [List.getElem_map]
    have h1:=HIT.out.1
    (try dsimp only at h1)
    rw [getD_at hiR] at h1
    exact of_decide_eq_true h1
   ·rw [List.getElem_map]
    have h1:R[i].At w3:=HQ.out.2 _ (List.getElem_mem hiR)
    unfold Row.At at h1
    rw [HCI.out.1,←HRA.out] at h1
    exact ((h1.ext hx4).ext hx9).put8 _ _ _ _ _ _ _ _ _ (by have:=HCU.out.2.2 _ (List.getElem_mem hiR);have:=HS1.out;have:=hx2.le;omega)
   ·have:=HCU.out.2.2 _ (List.getElem_mem hiR)
    have:=hxw2.le
    omega
 ·have HL:=Lib.hid hL
  have HK3:=Lib.hid (Hold.all8 (Hold.ext HKB.out hx13) (.int .i64 0) (.bool false) (.int .i64 0) (.slice none 0 0) (.slice none 0 0) (.slice none 0 0) (.slice none 0 0) (.int .i64 0))
  have h33:Ext w3 w3:=Ext.refl _
  clear hL
  go_wp2_with fail
  refine bodyPost_ret (eql_results _ _ (W.heap.size+1+1) _ _ _ _ _ _ _ _ _ rfl rfl HK3.out) rfl ?_
  exact ⟨hxw3.put8 (by omega) _ _ _ _ _ _ _ _,0,false,0,none,0,0,16,rfl,Or.inl ⟨rfl,rfl,rfl,rfl,rfl,rfl,HL.out⟩⟩
def HoldsP (op n k:Int):Prop:=(op=9∧n=k)∨(op=10∧n≠k)∨(op=11∧n<k)∨(op≠9∧op≠10∧op≠11∧n≤k)
set_option maxHeartbeats 1000000 in
theorem rholds_any (w:World) (op n k:Int):Calls Tryz.prog 148 #[.int .i64 op,.int .i64 n,.int .i64 k] w (BoolPost (HoldsP op n k) w):=by
 unfold HoldsP
 by_cases h9:op=9
 ·subst h9
  by_cases h:n=k
  ·subst h
   go_enter Tryz.func148,Tryz.ntmps148
   go_wp2_with fail
   go_ret
   exact ⟨_,rfl,by simp,Ext.refl _⟩
  ·have d0:(n == k)=false:=by simpa using h
   have H:=Lib.hid h
   clear h
   go_enter Tryz.func148,Tryz.ntmps148
   go_wp2_with fail
   go_ret
   exact ⟨_,rfl,by have:=H.out;simp [this],Ext.refl _⟩
 by_cases h10:op=10
 ·subst h10
  by_cases h:n=k
  ·subst h
   go_enter Tryz.func148,Tryz.ntmps148
   go_wp2_with fail
   go_ret
   exact ⟨_,rfl,by simp,Ext.refl _⟩
  ·have d0:(n == k)=false:=by simpa using h
   have H:=Lib.hid h
   clear h
   go_enter Tryz.func148,Tryz.ntmps148
   go_wp2_with fail
   go_ret
   exact ⟨_,rfl,by have:=H.out;simp [this],Ext.refl _⟩
 by_cases h11:op=11
 ·subst h11
  by_cases h:n<k
  ·have d0:decide (n<k)=true:=decide_eq_true h
   have H:=Lib.hid h
   clear h
   go_enter Tryz.func148,Tryz.ntmps148
   go_wp2_with fail
   go_ret
   exact ⟨_,rfl,by have:=H.out;simp [this],Ext.refl _⟩
  ·have d0:decide (n<k)=false:=decide_eq_false h
   have H:=Lib.hid h
   clear h
   go_enter Tryz.func148,Tryz.ntmps148
   go_wp2_with fail
   go_ret
   exact ⟨_,rfl,by have:=H.out;simp;omega,Ext.refl _⟩
 have d1:(op == 9)=false:=by simpa using h9
 have d2':(op == 10)=false:=by simpa using h10
 have d3:(op == 11)=false:=by simpa using h11
 have H:=Lib.hid (And.intro h9 (And.intro h10 h11))
 clear h9 h10 h11
 by_cases h:n≤k
 ·have d0:decide (n≤k)=true:=decide_eq_true h
  have H1:=Lib.hid h
  clear h
  go_enter Tryz.func148,Tryz.ntmps148
  go_wp2_with fail
  go_ret
  exact ⟨_,rfl,⟨fun _=>.inr (.inr (.inr ⟨H.out.1,H.out.2.1,H.out.2.2,H1.out⟩)),fun _=>rfl⟩,Ext.refl _⟩
 ·have d0:decide (n≤k)=false:=decide_eq_false h
  have H1:=Lib.hid h
  clear h
  go_enter Tryz.func148,Tryz.ntmps148
  go_wp2_with fail
  go_ret
  refine ⟨_,rfl,⟨fun h=>by simp at h,?_⟩,Ext.refl _⟩
  rintro (h | h | h | h)
  ·exact absurd h.1 H.out.1
  ·exact absurd h.1 H.out.2.1
  ·exact absurd h.1 H.out.2.2
  ·have:=H1.out;have:=h.2.2.2;omega
theorem rsrows0_any (w:World):Calls Tryz.prog 147 #[.slice none 0 0,.slice none 0 0] w fun e w'=>e=.returned (.bool true)∧w=w':=by
 go_enter Tryz.func147,Tryz.ntmps147
 go_wp2_with fail
 go_loopg [5] 0 (fun gg v5 wr=>gg=0∧v5=.int .i64 0∧w=wr)
 case atStart=>exact ⟨rfl,rfl,rfl⟩
 case round=>
  obtain ⟨rfl,rfl,rfl⟩:=hrel
  go_wp2_with fail
  go_ret
  exact ⟨rfl,rfl⟩
set_option maxHeartbeats 2000000 in
theorem rsans_any (w : World) (m1 m2 : Int) (h1 h2 : Bool) (kd1 kd2 v1 v2 : Int) (a1 a2 : Option Addr) (n1 n2 cp1 cp2 : Nat) (p : Prop)
    (hSL:∀ W,Ext w W→Calls Tryz.prog 134 #[.slice a1 n1 cp1,.slice a2 n2 cp2] W (BoolPost p W)) :
    Calls Tryz.prog 73 #[ansV m1 h1 kd1 (.slice a1 n1 cp1) v1,ansV m2 h2 kd2 (.slice a2 n2 cp2) v2] w (BoolPost (m1=m2∧h1=h2∧kd1=kd2∧v1=v2∧p) w):=by
 have HSL:=Lib.hid hSL
 clear hSL
 unfold ansV
 by_cases e1:m1=m2
 case neg=>
  have H:=Lib.hid e1
  have d0:(m1 == m2)=false:=by simpa using e1
  clear e1
  go_enter Tryz.func73,Tryz.ntmps73
  go_upto_region 1 with fail
  refine boxed2 (w:=w) (G:=fun x=>Code.wp _ _ _ _ x) ?_
  intro w1 hx1 hs1 ⟨l0,c0,_,_⟩ ⟨l1,c1,_,_⟩
  have hx11:Ext w1 w1:=Ext.refl _
  go_wp2_with fail
  go_ret
  exact ⟨_,rfl,⟨fun h=>(by cases h),fun h=>absurd h.1 H.out⟩,hx1⟩
 subst e1
 by_cases e2:h1=h2
 case neg=>
  have H:=Lib.hid e2
  have d0:(h1 == h2)=false:=by simpa using e2
  clear e2
  go_enter Tryz.func73,Tryz.ntmps73
  go_upto_region 1 with fail
  refine boxed2 (w:=w) (G:=fun x=>Code.wp _ _ _ _ x) ?_
  intro w1 hx1 hs1 ⟨l0,c0,_,_⟩ ⟨l1,c1,_,_⟩
  have hx11:Ext w1 w1:=Ext.refl _
  go_wp2_with fail
  go_ret
  exact ⟨_,rfl,⟨fun h=>(by cases h),fun h=>absurd h.2.1 H.out⟩,hx1⟩
 subst e2
 by_cases e3:kd1=kd2
 case neg=>
  have H:=Lib.hid e3
  have d0:(kd1 == kd2)=false:=by simpa using e3
  clear e3
  go_enter Tryz.func73,Tryz.ntmps73
  go_upto_region 1 with fail
  refine boxed2 (w:=w) (G:=fun x=>Code.wp _ _ _ _ x) ?_
  intro w1 hx1 hs1 ⟨l0,c0,_,_⟩ ⟨l1,c1,_,_⟩
  have hx11:Ext w1 w1:=Ext.refl _
  go_wp2_with fail
  go_ret
  exact ⟨_,rfl,⟨fun h=>(by cases h),fun h=>absurd h.2.2.1 H.out⟩,hx1⟩
 subst e3
 by_cases e4:v1=v2
 case neg=>
  have H:=Lib.hid e4
  have d0:(v1 == v2)=false:=by simpa using e4
  clear e4
  go_enter Tryz.func73,Tryz.ntmps73
  go_upto_region 1 with fail
  refine boxed2 (w:=w) (G:=fun x=>Code.wp _ _ _ _ x) ?_
  intro w1 hx1 hs1 ⟨l0,c0,_,_⟩ ⟨l1,c1,_,_⟩
  have hx11:Ext w1 w1:=Ext.refl _
  go_wp2_with fail
  go_ret
  exact ⟨_,rfl,⟨fun h=>(by cases h),fun h=>absurd h.2.2.2.1 H.out⟩,hx1⟩
 subst e4
 go_enter Tryz.func73,Tryz.ntmps73
 go_upto_region 1 with fail
 refine boxed2 (w:=w) (G:=fun x=>Code.wp _ _ _ _ x) ?_
 intro w1 hx1 hs1 ⟨l0,c0,_,_⟩ ⟨l1,c1,_,_⟩
 have hx11:Ext w1 w1:=Ext.refl _
 go_wp2_with fail
 go_loopg [5] 0 (fun gg v5 wr=>gg=0∧v5=.int .i64 0∧w1=wr)
 case atStart=>exact ⟨rfl,rfl,rfl⟩
 case round=>
  obtain ⟨rfl,rfl,rfl⟩:=hrel
  by_cases hp:p
  ·have hsl:Calls Tryz.prog 134 #[.slice a1 n1 cp1,.slice a2 n2 cp2] w1 (fun e w'=>e=.returned (.bool true)∧Ext w1 w'):=(HSL.out w1 hx1).mono fun e w' ⟨b,he,hb,hx⟩=>⟨by rw [he,hb.2 hp],hx⟩
   have HP:=Lib.hid hp
   clear hp
   go_wp2_with (first | (go_at_call 134;refine hsl.mono ?_;rintro e w2 ⟨rfl,hx2⟩) | (go_at_call 147;refine (rsrows0_any _).mono ?_;rintro e w4 ⟨rfl,rfl⟩))
   go_ret
   exact ⟨_,rfl,⟨fun _=>by have:=HP.out;simp [this],fun _=>rfl⟩,hx1.trans hx2⟩
  ·have hsl : Calls Tryz.prog 134 #[.slice a1 n1 cp1, .slice a2 n2 cp2] w1 (fun e w' => e = .returned (.bool false) ∧ Ext w1 w') := (HSL.out w1 hx1).mono fun e w' ⟨b, he, hb, hx⟩ => ⟨by
       rw [he]
       cases b with
       | false => rfl
       | true => exact absurd (hb.1 rfl) hp,hx⟩
   have HP:=Lib.hid hp
   clear hp
   go_wp2_with (go_at_call 134;refine hsl.mono ?_;rintro e w2 ⟨rfl,hx2⟩)
   go_ret
   exact ⟨_,rfl,⟨fun h=>(by cases h),fun h=>absurd h.2.2.2.2 HP.out⟩,hx1.trans hx2⟩
end Go.Proofs.YtnknkkmdbnaglaaGreat
