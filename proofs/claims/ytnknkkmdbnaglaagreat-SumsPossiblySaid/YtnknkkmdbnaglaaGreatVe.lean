/- Contracts and laws in plain Lean for SPos: group Ve. -/
import Derived.Test.YtnknkkmdbnaglaaGreatVd
import Derived.Test.YtnknkkmdbnaglaaGreatUy
import Derived.Test.YtnknkkmdbnaglaaGreatVa
set_option maxRecDepth 100000
namespace Go.Proofs.YtnknkkmdbnaglaaGreat
open Go.RowKit Go.Shelf
theorem Que.ofHold1 {w:World} {b base:Nat} {u:Value} (h:Hold w b #[u]) (hb:base≤b):Que w base 1 (.slice (some ⟨b,0,none⟩) 1 1) 1 [u]:=by
 have hx:=h.box
 refine ⟨rfl,.inr ⟨b,0,1,rfl,hb,h.lt,Nat.le_refl _,by unfold maxLen;omega,fun j hj=>?_,fun j hj=>?_⟩⟩
 ·obtain rfl:j=0:=by omega
  exact hx.cell w (Ext.refl _) 0
 ·obtain rfl:j=0:=by omega
  exact ⟨by rw [show (0+0:Nat)=0 from rfl,hx.cell w (Ext.refl _) 0];rfl,hx.frozen w (Ext.refl _) _⟩
structure LstI (T:Tr) (w1:World) (k B:Nat) (v4 v5:Value) (RL RO:List Row) (wr:World):Prop where
 q4:RowsQ wr B v4 RL
 q5:RowsQ wr w1.heap.size v5 RO
 hx:Ext w1 wr
 hB:w1.heap.size≤B∧B≤wr.heap.size
 g4:∀ x∈RL,B≤x.g
 o5:∀ g,v5.ownBlock=some g→g<B
 a5:∀ x∈RO,v5.ownBlock≠some x.g
 s4:RL.Pairwise (Row.bef T.n)
 m4:∀ l,(∃ x∈RL,x.l=l)↔(CutL T l∧tot (fn l) T.n=k)
 s5:RO.Pairwise (Row.bef T.n)
 m5:∀ l,(∃ x∈RO,x.l=l)↔(CutL T l∧tot (fn l) T.n<k)
 n4:RL.length≤40000
 n5:RO.length≤5000
structure NlI (T:Tr) (w4:World) (v6:Value) (RM:List Row) (P:List Nat→Prop) (m:Nat) (wr:World):Prop where
 q:RowsQ wr w4.heap.size v6 RM
 hx:Ext w4 wr
 g:∀ x∈RM,w4.heap.size≤x.g
 s:RM.Pairwise (Row.bef T.n)
 mem:∀ l,(∃ x∈RM,x.l=l)↔P l
 len:RM.length≤m
 ok:∀ x∈RM,CutL T x.l
theorem NlI.like {T:Tr} {w4:World} {v6:Value} {RM:List Row} {P P':List Nat→Prop} {m m':Nat} {wr:World} (h:NlI T w4 v6 RM P m wr) (hp:∀ l,P l↔P' l) (hm:m≤m'):NlI T w4 v6 RM P' m' wr:=
 ⟨h.q,h.hx,h.g,h.s,fun l=>(h.mem l).trans (hp l),Nat.le_trans h.len hm,h.ok⟩
theorem NlI.ext {T:Tr} {w4:World} {v6:Value} {RM:List Row} {P:List Nat→Prop} {m:Nat} {wr w':World} (h:NlI T w4 v6 RM P m wr) (x:Ext wr w'):NlI T w4 v6 RM P m w':=
 ⟨h.q.ext x,h.hx.trans x,h.g,h.s,h.mem,h.len,h.ok⟩
theorem InsIs.len {n:Nat} {R R':List Row} {r:Row} (h:InsIs n R r R'):R'.length≤R.length+1:=by
 obtain ⟨k,hk,_,_,⟨_,_,rfl⟩ | ⟨_,rfl⟩⟩:=h
 ·omega
 ·rw [List.length_append,List.length_cons,List.length_take,List.length_drop];omega
theorem NlI.ins {T:Tr} {w4:World} {v6 v':Value} {RM R':List Row} {P:List Nat→Prop} {m:Nat} {wr w':World} (h:NlI T w4 v6 RM P m wr) {r:Row} (hi:InsIs T.n RM r R') (hq:RowsQ w' w4.heap.size v' R') (x:Ext wr w') (hr:CutL T r.l) (hg:w4.heap.size≤r.g):NlI T w4 v' R' (fun l=>P l∨l=r.l) (m+1) w':=by
 refine ⟨hq,h.hx.trans x,fun y hy=>?_,hi.sorted h.s (fun y hy=>(h.ok y hy).1) hr.1,fun l=>(hi.mem.2 l).trans ⟨fun k=>k.elim (fun e=>.inr e) fun e=>.inl ((h.mem l).1 e),fun k=>k.elim (fun e=>.inr ((h.mem l).2 e)) .inl⟩,Nat.le_trans hi.len (Nat.add_le_add_right h.len 1),fun y hy=>?_⟩
 ·rcases hi.mem.1 y hy with rfl | k
  ·exact hg
  ·exact h.g y k
 ·rcases hi.mem.1 y hy with rfl | k
  ·exact hr
  ·exact h.ok y k
theorem nextOf_len (T:Tr) (l:List Nat):(T.nextOf l).length≤T.n:=by unfold Tr.nextOf;rw [List.length_map];exact T.onL_len _ _
def RlistPost (T:Tr) (w:World) (e:Ending) (w':World):Prop:=Ext w w'∧((∃ v R,e=.returned (.tuple #[v,.bool true])∧RowsQ w' w.heap.size v R∧IsCuts T (R.map Row.l)∧R.length≤5000)∨
 (e=.returned (.tuple #[.slice none 0 0,.bool false])∧∃ L:List (List Nat),L.Pairwise (fun a b=>befP T.n (fn a) (fn b))∧(∀ l∈L,CutL T l)∧5000<L.length))
theorem bef_map {n:Nat} {R:List Row}:(R.map Row.l).Pairwise (fun a b=>befP n (fn a) (fn b))↔R.Pairwise (Row.bef n):=List.pairwise_map
set_option maxHeartbeats 8000000 in
theorem rlist_any (w:World) (T:TM) (hT:T.At w) (hV:T.toTr.Valid):Calls Tryz.prog 20 #[T.val] w (RlistPost T.toTr w):=by
 obtain ⟨i0,hi0,hz0,hz1,hz2⟩:=info_parts infoInt
 obtain ⟨j0,hj0,hy0,hy1,hy2⟩:=info_parts infoInts1
 have hn8:=hV.n8
 have hn1:=hV.n1
 have HNX:=Lib.hid (fun W (x:Ext w W) r (hr:Row.At r W) hc=>rnext_any W T (hT.ext x) hV r hr hc)
 have HV:=Lib.hid hV
 unfold RlistPost
 obtain ⟨ta,hta⟩:∃ z,z=T.a:=⟨_,rfl⟩
 obtain rfl:ta=some ⟨T.b,T.off,none⟩:=by rw [hta];exact hT.P.pa (by omega)
 simp only [TM.val,←hta] at HNX ⊢
 clear hT hV hta
 go_enter Tryz.func20,Tryz.ntmps20
 go_upto_region 1 with fail
 refine boxed1 (w:=w) (G:=fun x=>Code.wp _ _ _ _ x) ?_
 intro w1 hx1 hs1 ⟨l0,c0,_,_⟩
 have hx11:Ext w1 w1:=Ext.refl _
 clear hs1
 go_upto_region 2 with (at_make;refine wpList_make_full _ rfl _ _ 28 rfl w1.heap.size 3 i0 (.int .i64 0) 1 Tryz.underlying28 hi0 hz0 hz1 .i64 .i64 _ _ T.n rfl rfl rfl rfl (by rw [hz2];omega) (by unfold maxLen;omega) (Nat.le_refl _) ?_;intro w2 hown2 hg2)
 have hx12:Ext w1 w2:=(Below.refl _ _).grown hg2 (Nat.le_refl _) (by simp)
 have HI2:=Lib.hid (IntRow.made hown2)
 clear hown2 hg2
 refine boxed1 (w:=w2) (G:=fun x=>Code.wp _ _ _ _ x) ?_
 intro w3 hx3 hs3 ⟨_,_,_,k3⟩
 have hx13:=hx12.trans hx3
 obtain ⟨b2,hb2⟩:∃ z,z=w2.heap.size:=⟨_,rfl⟩
 obtain ⟨b1,hb1⟩:∃ z,z=w1.heap.size:=⟨_,rfl⟩
 rw [←hb2] at k3 ⊢
 rw [←hb1] at k3 HI2 ⊢
 have hf0:∀ p,fn (List.replicate T.n 0) p=0:=fun p=>by unfold fn;rw [List.getD_eq_getElem?_getD,List.getElem?_replicate];split <;> rfl
 have hz:tot (fun _=>0) T.n=0:=by
  have:∀ n,tot (fun _=>0) n=0:=fun n=>by induction n with | zero=>rfl | succ n ih=>exact ih
  exact this _
 have hc0:CutL T.toTr (List.replicate T.n 0):=⟨List.length_replicate,(Tr.CutOk.zero T.toTr).congr fun p _=>hf0 p⟩
 have HST:=Lib.hid (show LstI T.toTr w1 0 b1 (.slice (some ⟨b2,0,none⟩) 1 1) (.slice none 0 0) [⟨List.replicate T.n 0,some ⟨b1,0,none⟩,b1,0,T.n⟩] [] w3 from by
  refine ⟨⟨by show Que w3 b1 1 _ 1 [Value.slice (some ⟨b1,0,none⟩) (List.replicate T.n 0).length T.n];rw [List.length_replicate];exact Que.ofHold1 k3 (by have:=hx12.le;omega),fun x hx=>?_⟩,RowsQ.nil _ _,hx13,⟨by omega,by have:=hx13.le;omega⟩,fun x hx=>?_,fun g e=>(by cases e),fun x hx=>(by cases hx),List.pairwise_singleton _ _,fun l=>?_,List.Pairwise.nil,fun l=>⟨fun ⟨x,hx,_⟩=>(by cases hx),fun h=>absurd h.2 (Nat.not_lt_zero _)⟩,by show 1≤40000;omega,by show 0≤5000;omega⟩
  ·obtain rfl:=List.mem_singleton.1 hx
   show NumAt w3 (List.replicate T.n 0).length _ b1 0 (natV (fn (List.replicate T.n 0)))
   rw [List.length_replicate]
   have h1:=(HI2.out.ext hx3).num (by omega)
   exact ⟨h1.hn,h1.pa,h1.pb,fun p hp=>by rw [h1.c p hp];show some (Value.int .i64 0)=some (Value.int .i64 ((fn (List.replicate T.n 0) p:Nat):Int));rw [hf0];rfl⟩
  ·obtain rfl:=List.mem_singleton.1 hx
   exact Nat.le_refl _
  ·constructor
   ·rintro ⟨x,hx,rfl⟩
    obtain rfl:=List.mem_singleton.1 hx
    exact ⟨hc0,(totS_congr fun p _=>hf0 p).trans hz⟩
   ·rintro ⟨h1,h2⟩
    refine ⟨_,List.mem_singleton.2 rfl,fn_ext (by rw [h1.1,List.length_replicate]) fun p hp=>?_⟩
    have hp':p<T.n:=by simpa using hp
    have h3:=tot_same (f:=fun _=>0) (g:=fn l) (n:=T.n) (fun _ _=>Nat.zero_le _) (by rw [hz,h2]) p hp'
    show fn (List.replicate T.n 0) p=fn l p
    rw [hf0];exact h3)
 have HB1:=Lib.hid hb1
 clear hf0 hz hc0 k3 hs3 hx3 hb2 hb1 hx13 hx12
 go_wp2_with fail
 go_loopg [4,5] (tot T.en T.n+2) (fun gg v4 v5 wr=>∃ (k B:Nat) (RL RO:List Row),gg=tot T.en T.n+2 - k∧LstI T.toTr w1 k B v4 v5 RL RO wr)
 case atStart=>exact ⟨0,b1,_,[],rfl,HST.out⟩
 case round=>
  obtain ⟨k,B,RL,RO,rfl,hI⟩:=hrel
  obtain ⟨a4,c4,rfl⟩:=hI.q4.1.slice
  obtain ⟨a5,c5,rfl⟩:=hI.q5.1.slice
  have hx1r:=hI.hx
  have hxr:=hx1.trans hx1r
  obtain ⟨ln,hln⟩:∃ z,z=RL.length:=⟨_,rfl⟩
  obtain ⟨lo,hlo⟩:∃ z,z=RO.length:=⟨_,rfl⟩
  have hl4:=hI.n4
  have hl5:=hI.n5
  rw [←hln] at hI hl4 ⊢
  rw [←hlo] at hI hl5 ⊢
  have HLN:=Lib.hid hln
  have HLO:=Lib.hid hlo
  have HI:=Lib.hid hI
  clear hI hln hlo
  by_cases h0:0<ln
  ·have d0:decide ((0:Int)<(ln:Int))=true:=decide_eq_true (by omega)
   have d0':decide (0<ln)=true:=decide_eq_true h0
   have HKL:=Lib.hid (show k≤tot T.en T.n from by
    have h1:RL[0]'(by rw [←HLN.out];exact h0)∈RL:=List.getElem_mem _
    have h2:=(HI.out.m4 _).1 ⟨_,h1,rfl⟩
    rw [←h2.2]
    exact totS_le fun p hp=>h2.1.2.le p hp)
   have HPOS:=Lib.hid (show ∀ x∈RO++RL,0<x.l.length∧CutL T.toTr x.l from fun x hx=>by
    have h1:CutL T.toTr x.l:=(List.mem_append.1 hx).elim (fun h=>((HI.out.m5 _).1 ⟨x,h,rfl⟩).1) (fun h=>((HI.out.m4 _).1 ⟨x,h,rfl⟩).1)
    exact ⟨by rw [h1.1];omega,h1⟩)
   have HAP:=Lib.hid (show ∀ x∈RO++RL,(Value.slice a5 lo c5).ownBlock≠some x.g from fun x hx=>by
    rcases List.mem_append.1 hx with h | h
    ·exact HI.out.a5 x h
    ·intro e
     have h1:=HI.out.o5 _ e
     have h2:=HI.out.g4 x h
     omega)
   go_upto_region 5 with (at_builtin;refine wpList_append_que _ rfl _ _ 33 33 rfl (base:=w1.heap.size) (e:=28) (size:=1) j0 (.slice none 0 0) 24 Tryz.underlying33 hj0 hy0 hy1 hy2 rfl rfl (v:=.slice a5 lo c5) (n:=lo) (xs:=RO.map Row.val) (by have h1:=HI.out.q5.1;rw [←HLO.out] at h1;exact h1) (by have:=hx1r.le;omega) (.slice a4 ln c4) ln (RL.map Row.val) rfl (by have h1:=HI.out.q4.src;rw [←HLN.out] at h1;exact h1) (by unfold maxLen;omega) (by omega) ?_;rintro v6 w4 hq6 hg6 ho6)
   have hRn:=RowsQ.app (w:=wr) (v:=.slice a5 lo c5) (R:=RO) (S:=RL) HI.out.q5 (fun x hx=>HI.out.q4.2 x hx) (fun x hx=>(HPOS.out x hx).1) HAP.out (by rw [←HLO.out,←HLN.out];exact hq6) hg6
   have hAp:=RowsQ.app_apart (w:=wr) (v:=.slice a5 lo c5) (v':=v6) (R:=RO++RL) (fun x hx=>(List.mem_append.1 hx).elim (HI.out.q5.2 x) (HI.out.q4.2 x)) (fun x hx=>(HPOS.out x hx).1) HAP.out ho6
   have hlt6:=Que.own_lt hq6 (by omega)
   have hx14:Ext w1 w4:=hx1r.below.grown hg6 hx1r.le (fun g e=>HI.out.q5.1.block g e)
   have HQ4:=Lib.hid (show RowsQ w4 B (.slice a4 ln c4) RL from by
    refine ⟨HI.out.q4.1.same' hg6.size fun g e=>hg6.block g ?_ ?_,fun x hx=>NumAt.blk (HI.out.q4.2 x hx) (hg6.block x.g (NumAt.pb (HI.out.q4.2 x hx) (HPOS.out x (List.mem_append_right _ hx)).1) (fun e=>HAP.out x (List.mem_append_right _ hx) e.symm)) hg6.size⟩
    ·exact Que.own_lt HI.out.q4.1 (by rw [←HLN.out];exact h0) g e
    ·intro e2
     have h1:=HI.out.o5 g e2.symm
     have h2:=HI.out.q4.1.block g e
     omega)
   obtain ⟨a6,c6,rfl⟩:=hq6.slice
   have HR4:=Lib.hid (And.intro hRn (And.intro hAp hlt6))
   have HS6:=Lib.hid (show (RO++RL).Pairwise (Row.bef T.n) from List.pairwise_append.2 ⟨HI.out.s5,HI.out.s4,fun x hx y hy=>.inl (by
    have h1:=((HI.out.m5 _).1 ⟨x,hx,rfl⟩).2
    have h2:=((HI.out.m4 _).1 ⟨y,hy,rfl⟩).2
    show tot (fn x.l) T.n<tot (fn y.l) T.n
    omega)⟩)
   have HM6:=Lib.hid (show ∀ l,(∃ x∈RO++RL,x.l=l)↔(CutL T.toTr l∧tot (fn l) T.n<k+1) from fun l=>by
    constructor
    ·rintro ⟨x,hx,rfl⟩
     rcases List.mem_append.1 hx with h | h
     ·have h1:=(HI.out.m5 _).1 ⟨x,h,rfl⟩;exact ⟨h1.1,by omega⟩
     ·have h1:=(HI.out.m4 _).1 ⟨x,h,rfl⟩;exact ⟨h1.1,by omega⟩
    ·rintro ⟨h1,h2⟩
     by_cases e:tot (fn l) T.n=k
     ·obtain ⟨x,hx,hl⟩:=(HI.out.m4 l).2 ⟨h1,e⟩;exact ⟨x,List.mem_append_right _ hx,hl⟩
     ·obtain ⟨x,hx,hl⟩:=(HI.out.m5 l).2 ⟨h1,by omega⟩;exact ⟨x,List.mem_append_left _ hx,hl⟩)
   have HLB:=Lib.hid (show B≤wr.heap.size∧wr.heap.size≤w4.heap.size from ⟨HI.out.hB.2,hg6.size⟩)
   have hxw4:=hx1.trans hx14
   clear hRn hAp hlt6 hq6 hg6 ho6
   by_cases hbig:5000<lo+ln
   ·have d1:decide ((5000:Int)<((lo+ln:Nat):Int))=true:=decide_eq_true (by omega)
    have d1':decide ((5000:Int)<(lo:Int)+(ln:Int))=true:=decide_eq_true (by omega)
    have d1'':decide (5000<lo+ln)=true:=decide_eq_true hbig
    go_wp2_with fail
    go_ret2
    exact ⟨hxw4,.inr ⟨rfl,(RO++RL).map Row.l,bef_map.2 HS6.out,fun l hl=>by obtain ⟨x,hx,rfl⟩:=List.mem_map.1 hl;exact (HPOS.out x hx).2,by rw [List.length_map,List.length_append,←HLO.out,←HLN.out];exact hbig⟩⟩
   have d1:decide ((5000:Int)<((lo+ln:Nat):Int))=false:=decide_eq_false (by omega)
   have d1':decide ((5000:Int)<(lo:Int)+(ln:Int))=false:=decide_eq_false (by omega)
   have d1'':decide (5000<lo+ln)=false:=decide_eq_false hbig
   have HNL:=Lib.hid (show NlI T.toTr w4 (.slice none 0 0) [] (fun l=>∃ a∈RL.take 0,l∈T.toTr.nextOf a.l) (8*0) w4 from ⟨RowsQ.nil _ _,Ext.refl _,fun x hx=>(by cases hx),List.Pairwise.nil,fun l=>⟨fun ⟨x,hx,_⟩=>(by cases hx),fun ⟨x,hx,_⟩=>(by simp at hx)⟩,Nat.le_refl _,fun x hx=>(by cases hx)⟩)
   clear hx1r hxr
   go_wp2_with fail
   go_loopg [6,7] ln (fun gg v6 v7 wr=>∃ (i:Nat) (RM:List Row),i≤ln∧gg=ln - i∧v7=.int .i64 i∧NlI T.toTr w4 v6 RM (fun l=>∃ a∈RL.take i,l∈T.toTr.nextOf a.l) (8*i) wr)
   case atStart=>exact ⟨0,[],by omega,rfl,rfl,HNL.out⟩
   case round=>
    obtain ⟨i,RM,hi,rfl,rfl,hN⟩:=hrel
    have hx4i:=hN.hx
    have hx1i:=hx14.trans hx4i
    have hxwi:=hx1.trans hx1i
    obtain ⟨am,cm,rfl⟩:=hN.q.1.slice
    obtain ⟨lm,hlm⟩:∃ z,z=RM.length:=⟨_,rfl⟩
    have hlm4:lm≤40000:=by have:=hN.len;omega
    rw [←hlm] at hN ⊢
    have HLM:=Lib.hid hlm
    have HN:=Lib.hid hN
    clear hN HNL hlm
    by_cases hli:i<ln
    ·have hli':(i:Int)<(ln:Int):=by omega
     have hiR:i<RL.length:=by rw [←HLN.out];exact hli
     obtain ⟨a4',g4,o4,c4',hv4,_,hp4,hget⟩:=HQ4.out.get
     rw [←HLN.out] at hv4
     simp only [Value.slice.injEq] at hv4
     obtain ⟨rfl,_,rfl⟩:=hv4
     obtain ⟨rfl,_,hgl⟩:=hp4 (by omega)
     have hcell:=hget i hiR
     have pb4:∀ w',Ext w4 w'→g4<w'.heap.size:=fun w' x=>Nat.lt_of_lt_of_le hgl x.le
     have hnx:=HNX.out wr.drew hxwi.drew RL[i] ((HQ4.out.2 _ (List.getElem_mem hiR)).ext hx4i.drew) (HPOS.out _ (List.mem_append_right _ (List.getElem_mem hiR))).2
     simp only [Row.val] at hnx
     obtain ⟨ra,hra⟩:∃ z,z=RL[i].a:=⟨_,rfl⟩
     obtain ⟨rl,hrl⟩:∃ z,z=RL[i].l.length:=⟨_,rfl⟩
     obtain ⟨rc,hrc⟩:∃ z,z=RL[i].c:=⟨_,rfl⟩
     rw [←hra,←hrl,←hrc] at hnx hcell
     clear hget hp4 hgl hra hrl hrc
     go_upto_region 11 with fail
     refine wp_region_held_drew (S:=fun w'=>Ext wr w') (by kernel_rfl) (Ext.refl _).drew (fun hHeld=>?_)
     refine hQ 0 (v:=?_) rfl (y:=.inl ⟨by rfl,?_⟩) (h:=?_)
     rotate_left
     ·(intro w' hSw;(try dsimp only at hSw);have hS1:=hx1i.trans hSw;have hS4:=hx4i.trans hSw;have hSS:=Ext.refl w';go_simp;try with_reducible rfl)
     try simp only [Act.put,zA,zB,zC]
     refine hQ 1 (v:=?_) rfl (y:=.inl ⟨by rfl,?_⟩) (h:=?_)
     rotate_left
     ·(intro w' hSw;(try dsimp only at hSw);have hS1:=hx1i.trans hSw;have hS4:=hx4i.trans hSw;have hSS:=Ext.refl w';go_simp;try with_reducible rfl)
     try simp only [Act.put,zA,zB,zC]
     refine hQ 2 (v:=?_) rfl (y:=.inl ⟨by rfl,?_⟩) (h:=?_)
     rotate_left
     ·(intro w' hSw;(try dsimp only at hSw);have hS1:=hx1i.trans hSw;have hS4:=hx4i.trans hSw;have hSS:=Ext.refl w';go_simp;try with_reducible rfl)
     try simp only [Act.put,zA,zB,zC]
     refine hQ 3 (v:=?_) rfl (y:=.inl ⟨by rfl,?_⟩) (h:=?_)
     rotate_left
     ·(intro w' hSw;(try dsimp only at hSw);have hS1:=hx1i.trans hSw;have hS4:=hx4i.trans hSw;have hSS:=Ext.refl w';go_simp;try with_reducible rfl)
     try simp only [Act.put,zA,zB,zC]
     refine hQ 4 (v:=?_) rfl (y:=.inl ⟨by rfl,?_⟩) (h:=?_)
     rotate_left
     ·(intro w' hSw;(try dsimp only at hSw);have hS1:=hx1i.trans hSw;have hS4:=hx4i.trans hSw;have hSS:=Ext.refl w';go_simp;try with_reducible rfl)
     try simp only [Act.put,zA,zB,zC]
     refine wpAnyH_ready (rs:=[5]) (by kernel_rfl) (by simp) ?_
     refine AllReadyH.cons rfl (fun K hK=>?_) AllReadyH.nil
     go_simp
     go_at_call 84
     refine hnx.mono ?_
     rintro e w6 ⟨hx6,v8,R8,rfl,hq8,hm8,hg8⟩
     have hxr6:Ext wr w6:=(Ext.refl wr).drew.trans hx6
     refine hK.out _ _ ?_ (fun hHeld2=>?_)
     ·exact hxr6
     clear hK K
     try simp only [Act.put,zA,zB,zC]
     refine wpAnyH_ready (rs:=[6]) (by kernel_rfl) (by simp) ?_
     refine AllReadyH.cons rfl (fun K hK=>?_) AllReadyH.nil
     go_simp
     refine hK.out _ _ ?_ (fun hHeld3=>?_)
     ·exact hxr6
     clear hK K
     try simp only [Act.put,zA,zB,zC]
     refine wpAnyH_done (by kernel_rfl) ?_ _
     have HX4I:=Lib.hid (show w4.heap.size≤wr.drew.heap.size from hx4i.drew.le)
     have HM8:=Lib.hid hm8
     have HG8:=Lib.hid hg8
     have HQ8:=Lib.hid hq8
     obtain ⟨a8',g8,o8,c8',hv8,_,hp8,hget8⟩:=hq8.get
     obtain ⟨n8,hn8'⟩:∃ z,z=R8.length:=⟨_,rfl⟩
     rw [←hn8'] at hv8 hp8
     subst hv8
     have HN8:=Lib.hid hn8'
     have hn88:n8≤8:=by
      have h1:=congrArg List.length HM8.out
      rw [List.length_map,←hn8'] at h1
      rw [h1]
      have:=nextOf_len T.toTr RL[i].l
      omega
     have HGT:=Lib.hid hget8
     have HP8:=Lib.hid hp8
     have hx46:=hx4i.trans hxr6
     have hx16:=hx1i.trans hxr6
     have hxw6:=hxwi.trans hxr6
     have HST2:=Lib.hid (show NlI T.toTr w4 (.slice am lm cm) RM (fun l=>(∃ a∈RL.take i,l∈T.toTr.nextOf a.l)∨l∈(T.toTr.nextOf RL[i].l).take 0) (8*i+0) w6 from (HN.out.ext hxr6).like (fun l=>⟨.inl,fun h=>h.elim id fun h=>by simp at h⟩) (Nat.le_refl _))
     have h66:Ext w6 w6:=Ext.refl _
     clear hHeld hHeld2 hHeld3 hnx hx6 hm8 hg8 hq8 hget8 hp8 hn8' hcell pb4
     go_wp2_with fail
     go_loopg [6,9] n8 (fun gg v6 v9 wr=>∃ (j:Nat) (RM:List Row),j≤n8∧gg=n8 - j∧v9=.int .i64 j∧NlI T.toTr w4 v6 RM (fun l=>(∃ a∈RL.take i,l∈T.toTr.nextOf a.l)∨l∈(T.toTr.nextOf RL[i].l).take j) (8*i+j) wr∧Ext w6 wr)
     case atStart=>exact ⟨0,RM,by omega,rfl,rfl,HST2.out,h66⟩
     case round=>
      obtain ⟨j,RN,hj,rfl,rfl,hN,hx6j⟩:=hrel
      obtain ⟨an,cn,rfl⟩:=hN.q.1.slice
      have hx4j:=hN.hx
      have hxwj:=hxw6.trans hx6j
      obtain ⟨lk,hlk⟩:∃ z,z=RN.length:=⟨_,rfl⟩
      have hlk4:lk≤100000:=by have:=hN.len;omega
      rw [←hlk] at hN ⊢
      have HN2:=Lib.hid hN
      by_cases hlj:j<n8
      ·have hlj':(j:Int)<(n8:Int):=by omega
       have hjR:j<R8.length:=by rw [←HN8.out];exact hlj
       obtain ⟨rfl,_,hgl8⟩:=HP8.out (by omega)
       have hcell8:=HGT.out j hjR
       have pb8:∀ w',Ext w6 w'→g8<w'.heap.size:=fun w' x=>Nat.lt_of_lt_of_le hgl8 x.le
       have hj8:(T.toTr.nextOf RL[i].l)[j]?=some R8[j].l:=by rw [←HM8.out,List.getElem?_map,List.getElem?_eq_getElem hjR];rfl
       have hcj:CutL T.toTr R8[j].l:=(CutL.next (HPOS.out _ (List.mem_append_right _ (List.getElem_mem hiR))).2 (List.mem_of_getElem? hj8)).1
       have hins:=rins_any wr T.n w4.heap.size (.slice an lk cn) RN HN2.out.q hx4j.le (fun x hx=>(HN2.out.ok x hx).ok HV.out) (by rw [←hlk];exact hlk4) R8[j] ((HQ8.out.2 _ (List.getElem_mem hjR)).ext hx6j) (hcj.ok HV.out)
       simp only [Row.val] at hins
       obtain ⟨ra,hra⟩:∃ z,z=R8[j].a:=⟨_,rfl⟩
       obtain ⟨rl,hrl⟩:∃ z,z=R8[j].l.length:=⟨_,rfl⟩
       obtain ⟨rc,hrc⟩:∃ z,z=R8[j].c:=⟨_,rfl⟩
       rw [←hra,←hrl,←hrc] at hins hcell8
       have HCJ:=Lib.hid (And.intro hcj hj8)
       clear hgl8 hra hrl hrc hcj hj8 hN hlk
       go_wp2_with fail
       go_at_call 85
       refine hins.mono ?_
       rintro e w7 ⟨hx7,v7,R7,rfl,hq7,hi7,_⟩
       obtain ⟨a7,c7,rfl⟩:=hq7.1.slice
       have hx67:=hx6j.trans hx7
       have HNX2:=Lib.hid ((HN2.out.ins hi7 hq7 hx7 HCJ.out.1 (Nat.le_trans HX4I.out (HG8.out _ (List.getElem_mem hjR)))).like (P':=fun l=>(∃ a∈RL.take i,l∈T.toTr.nextOf a.l)∨l∈(T.toTr.nextOf RL[i].l).take (j+1)) (fun l=>by
        rw [List.take_add_one,HCJ.out.2]
        simp only [Option.toList_some,List.mem_append,List.mem_singleton]
        exact or_assoc) (show 8*i+j+1≤8*i+(j+1) from Nat.le_refl _))
       clear hins hq7 hi7 hx7
       go_wp2_with fail
       go_roundg (n8 - (j+1))
       case rel=>exact ⟨j+1,R7,by omega,rfl,by go_num,HNX2.out,hx67⟩
       case measure=>omega
      ·obtain rfl:j=n8:=by omega
       have HNI:=Lib.hid (show NlI T.toTr w4 (.slice an lk cn) RN (fun l=>∃ a∈RL.take (i+1),l∈T.toTr.nextOf a.l) (8*(i+1)) wr from HN2.out.like (fun l=>by
        have e9:(T.toTr.nextOf RL[i].l).take j=T.toTr.nextOf RL[i].l:=List.take_of_length_le (by have h1:=congrArg List.length HM8.out;rw [List.length_map] at h1;rw [←h1,←HN8.out];exact Nat.le_refl _)
        rw [e9,List.take_add_one,List.getElem?_eq_getElem hiR]
        constructor
        ·rintro (⟨a,ha,hl⟩ | hl)
         ·exact ⟨a,List.mem_append_left _ ha,hl⟩
         ·exact ⟨RL[i],List.mem_append_right _ (by simp),hl⟩
        ·rintro ⟨a,ha,hl⟩
         rcases List.mem_append.1 ha with h | h
         ·exact .inl ⟨a,h,hl⟩
         ·obtain rfl:a=RL[i]:=by simpa using h
          exact .inr hl) (by omega))
       clear hN hlk
       go_wp2_with fail
       go_roundg (ln - (i+1))
       case rel=>exact ⟨i+1,RN,by omega,rfl,by go_num,HNI.out⟩
       case measure=>omega
    ·obtain rfl:i=ln:=by omega
     have HNS:=Lib.hid (show LstI T.toTr w1 (k+1) w4.heap.size (.slice am lm cm) (.slice a6 (lo+i) c6) RM (RO++RL) wr from
      ⟨HN.out.q,HR4.out.1.ext hx4i,hx1i,⟨hx14.le,hx4i.le⟩,HN.out.g,HR4.out.2.2,HR4.out.2.1,HN.out.s,fun l=>by
       rw [HN.out.mem l]
       refine Iff.trans ?_ (level_next HV.out (P:=fun l=>∃ x∈RL,x.l=l) (fun l=>HI.out.m4 l) l)
       rw [List.take_of_length_le (by rw [HLN.out];exact Nat.le_refl _)]
       constructor
       ·rintro ⟨a,ha,hl⟩;exact ⟨a.l,⟨a,ha,rfl⟩,hl⟩
       ·rintro ⟨_,⟨a,ha,rfl⟩,hl⟩;exact ⟨a,ha,hl⟩,HS6.out,HM6.out,by have:=HN.out.len;omega,by rw [List.length_append,←HLO.out,←HLN.out];omega⟩)
     go_wp2_with fail
     go_roundg (tot T.en T.n+2 - (k+1))
     case rel=>exact ⟨k+1,w4.heap.size,RM,RO++RL,rfl,HNS.out⟩
     case measure=>have:=HKL.out;omega
  ·have hl0:ln=0:=by omega
   subst hl0
   have HF:=Lib.hid (show IsCuts T.toTr (RO.map Row.l) from ⟨bef_map.2 HI.out.s5,fun l=>by
    have hn0:∀ l,¬(CutL T.toTr l∧tot (fn l) T.n=k):=fun l h=>by
     obtain ⟨x,hx,_⟩:=(HI.out.m4 l).2 h
     have h1:RL=[]:=List.eq_nil_of_length_eq_zero HLN.out.symm
     rw [h1] at hx;cases hx
    constructor
    ·intro hl
     obtain ⟨x,hx,rfl⟩:=List.mem_map.1 hl
     exact ((HI.out.m5 _).1 ⟨x,hx,rfl⟩).1
    ·intro hl
     have h2:tot (fn l) T.n<k:=Nat.lt_of_not_le fun hle=>level_none HV.out hn0 (tot (fn l) T.n - k) l hl (by omega)
     obtain ⟨x,hx,rfl⟩:=(HI.out.m5 l).2 ⟨hl,h2⟩
     exact List.mem_map.2 ⟨x,hx,rfl⟩⟩)
   go_wp2_with fail
   go_ret2
   exact ⟨hxr,.inl ⟨_,RO,rfl,(by have h1:=HI.out.q5.mono hx1.le;exact h1),HF.out,by rw [←HLO.out];exact hl5⟩⟩
structure WRow (w:World) (g o n:Nat) (c:Nat→Nat):Prop where
 c:∀ k,k<n→w.cell? ⟨g,o+k,none⟩=some (.int .i64 (c k:Int))
 fr:∀ k,k<n→w.frozen? ⟨g,o+k,none⟩=false
 lt:g<w.heap.size
theorem WRow.ext {w w':World} {g o n:Nat} {c:Nat→Nat} (h:WRow w g o n c) (x:Ext w w'):WRow w' g o n c:=
 ⟨fun k hk=>x.cell (h.c k hk),fun k hk=>(x.frozen (p:=⟨g,o+k,none⟩) h.lt).trans (h.fr k hk),Nat.lt_of_lt_of_le h.lt x.le⟩
theorem WRow.like {w:World} {g o n:Nat} {c c':Nat→Nat} (h:WRow w g o n c) (e:∀ k,k<n→c' k=c k):WRow w g o n c':=⟨fun k hk=>by rw [e k hk];exact h.c k hk,h.fr,h.lt⟩
theorem WRow.num {w:World} {g o n:Nat} {c:Nat→Nat} (h:WRow w g o n c) (hn:n≤140737488355328):NumAt w n (some ⟨g,o,none⟩) g o (natV c):=⟨hn,fun _=>rfl,fun _=>h.lt,h.c⟩
theorem WRow.set {w:World} {g o n:Nat} {c:Nat→Nat} (h:WRow w g o n c) (q x:Nat):WRow (w.setCell ⟨g,o+q,none⟩ (.int .i64 (x:Int))) g o n (fun j=>if j=q then x else c j):=by
 refine ⟨fun k hk=>?_,fun k hk=>?_,by rw [World.size_setCell];exact h.lt⟩
 ·by_cases e:k=q
  ·subst e;rw [if_pos rfl];exact World.cell?_setCell_same _ _ _ (h.c k hk)
  ·rw [if_neg e];refine Eq.trans ?_ (h.c k hk);apply World.cell?_setCell_other;intro h9;simp only [Addr.mk.injEq] at h9;omega
 ·rw [frozen_set];exact h.fr k hk
theorem WRow.made {w:World} {base:Nat} {v:Value} {n:Nat} {c:Nat→Nat} (h:Que w base 1 v n (intCells (rowL (natV c) n))) (hn:0<n):∃ g o cap,v=.slice (some ⟨g,o,none⟩) n cap∧WRow w g o n c∧base≤g:=by
 rcases h.val with ⟨_,_,hn0,_⟩ | ⟨g,o,cap,rfl,q1,q2,q3,q4,q5,q6⟩
 ·omega
 ·exact ⟨g,o,cap,rfl,⟨fun k hk=>(q5 k (by omega)).trans (rowL_get (natV c) hk),fun k hk=>(q6 k (by omega)).2,q2⟩,q1⟩
def fR (R:List Row) (j:Nat):Nat→Nat:=fn ((R.map Row.l).getD j [])
theorem fR_eq {R:List Row} {j:Nat} (h:j<R.length):fR R j=fn R[j].l:=by
 unfold fR
 rw [List.getD_eq_getElem?_getD,List.getElem?_map,List.getElem?_eq_getElem h];rfl
structure MaxI (n:Nat) (s:(Nat→Nat)→Int) (R:List Row) (i:Nat) (v:Int) (c:Nat→Nat):Prop where
 ex:∃ j,j<i∧s (fR R j)=v
 le:∀ j,j<i→s (fR R j)≤v
 lo:∀ j,j<i→s (fR R j)=v→∀ p,p<n→c p≤fR R j p
 at_:∀ p,p<n→∃ j,j<i∧s (fR R j)=v∧c p=fR R j p
theorem MaxI.one {n:Nat} {s:(Nat→Nat)→Int} {R:List Row} {c:Nat→Nat} (e:∀ p,p<n→c p=fR R 0 p):MaxI n s R 1 (s (fR R 0)) c:=by
 have h0:∀ j,j<1→j=0:=fun j h=>by omega
 exact ⟨⟨0,by omega,rfl⟩,fun j h=>by rw [h0 j h];exact Int.le_refl _,fun j h _ p hp=>by rw [h0 j h,e p hp];exact Nat.le_refl _,fun p hp=>⟨0,by omega,rfl,e p hp⟩⟩
theorem MaxI.more {n:Nat} {s:(Nat→Nat)→Int} {R:List Row} {i:Nat} {v:Int} {c c':Nat→Nat} (h:MaxI n s R i v c) (hv:v<s (fR R i)) (e:∀ p,p<n→c' p=fR R i p):MaxI n s R (i+1) (s (fR R i)) c':=by
 refine ⟨⟨i,by omega,rfl⟩,fun j hj=>?_,fun j hj hs p hp=>?_,fun p hp=>⟨i,by omega,rfl,e p hp⟩⟩
 ·by_cases q:j=i
  ·subst q;exact Int.le_refl _
  ·have:=h.le j (by omega);omega
 ·by_cases q:j=i
  ·subst q;rw [e p hp];exact Nat.le_refl _
  ·have:=h.le j (by omega);omega
theorem MaxI.less {n:Nat} {s:(Nat→Nat)→Int} {R:List Row} {i:Nat} {v:Int} {c:Nat→Nat} (h:MaxI n s R i v c) (hv:s (fR R i)<v):MaxI n s R (i+1) v c:=by
 refine ⟨?_,fun j hj=>?_,fun j hj hs p hp=>?_,fun p hp=>?_⟩
 ·obtain ⟨j,hj,h1⟩:=h.ex;exact ⟨j,by omega,h1⟩
 ·by_cases q:j=i
  ·subst q;omega
  ·exact h.le j (by omega)
 ·by_cases q:j=i
  ·subst q;omega
  ·exact h.lo j (by omega) hs p hp
 ·obtain ⟨j,hj,h1⟩:=h.at_ p hp;exact ⟨j,by omega,h1⟩
theorem MaxI.same {n:Nat} {s:(Nat→Nat)→Int} {R:List Row} {i:Nat} {v:Int} {c c':Nat→Nat} (h:MaxI n s R i v c) (hv:s (fR R i)=v) (e:∀ p,p<n→c' p=min (c p) (fR R i p)):MaxI n s R (i+1) v c':=by
 refine ⟨?_,fun j hj=>?_,fun j hj hs p hp=>?_,fun p hp=>?_⟩
 ·obtain ⟨j,hj,h1⟩:=h.ex;exact ⟨j,by omega,h1⟩
 ·by_cases q:j=i
  ·subst q;omega
  ·exact h.le j (by omega)
 ·rw [e p hp]
  by_cases q:j=i
  ·subst q;omega
  ·have:=h.lo j (by omega) hs p hp;omega
 ·rw [e p hp]
  by_cases q:c p≤fR R i p
  ·obtain ⟨j,hj,h1,h2⟩:=h.at_ p hp;exact ⟨j,by omega,h1,by omega⟩
  ·exact ⟨i,by omega,hv,by omega⟩
def RmaxPost (T:TM) (ts:List Trm) (R:List Row) (w:World) (e:Ending) (w':World):Prop:=Ext w w'∧∃ v g o cap c,e=.returned (.tuple #[.int .i64 v,.slice (some ⟨g,o,none⟩) T.n cap])∧NumAt w' T.n (some ⟨g,o,none⟩) g o (natV c)∧MaxI T.n (T.sumAt ts) R R.length v c
def RmaxPost2 (T:TM) (ts:List Trm) (R:List Row) (w:World) (e:Ending) (w':World):Prop:=Ext w w'∧∃ v g o cap c,e=.returned (.tuple #[.int .i64 v,.slice (some ⟨g,o,none⟩) T.n cap])∧NumAt w' T.n (some ⟨g,o,none⟩) g o (natV c)∧MaxI T.n (T.sumAt ts) R R.length v c∧w.heap.size≤g
set_option maxHeartbeats 8000000 in
theorem rmax2_any (w : World) (T : TM) (hT : T.At w) (D : TmD) (hD : D.At w) (hO : T.SumOk D.l) (base : Nat) (v : Value) (R : List Row) (hR : RowsQ w base v R) (h0 : 0 < R.length) (hl : R.length ≤ 5000) (hc : ∀ x ∈ R, CutL T.toTr x.l) :
    Calls Tryz.prog 21 #[T.val,v,.slice D.s.a D.s.n D.s.c] w (RmaxPost2 T D.l R w):=by
 obtain ⟨i0,hi0,hz0,hz1,hz2⟩:=info_parts infoInt
 have hV:=hO.v
 have hn8:=hV.n8
 have hn1:=hV.n1
 obtain ⟨a4,g4,o4,c4,rfl,_,hp4,hget⟩:=hR.get
 obtain ⟨rfl,_,hgl⟩:=hp4 h0
 have HNM:=Lib.hid (fun j (hj:j<R.length) W (x:Ext w W)=>(show NumAt W T.n R[j].a R[j].g R[j].o (natV (fR R j)) from by
  have h1:=(hR.2 _ (List.getElem_mem hj)).ext x
  unfold Row.At at h1
  rw [(hc _ (List.getElem_mem hj)).1] at h1
  rw [fR_eq hj];exact h1))
 have HVL:=Lib.hid (fun j (hj:j<R.length) W (x:Ext w W)=>(show Calls Tryz.prog 31 #[T.val,.slice R[j].a T.n R[j].c,.slice D.s.a D.s.n D.s.c] W (fun e w'=>e=.returned (.int .i64 (T.sumAt D.l (fR R j)))∧Ext W w') from by
  have h1:=HNM.out j hj W x
  exact rval39_any W T (hT.ext x) D (hD.ext x) hV hO.known hO.coef hO.len R[j].a R[j].g R[j].o R[j].c (fR R j) ⟨h1.pa,h1.pb,h1.c⟩ (fun p hp=>by rw [fR_eq hj];exact (hc _ (List.getElem_mem hj)).2.le p hp)))
 have HCE:=Lib.hid (fun j (hj:j<R.length) w' (x:Ext w w')=>(show w'.cell? ⟨g4,o4+j,none⟩=some (.slice R[j].a T.n R[j].c) from by
  have h1:=hget j hj w' x
  rw [(hc _ (List.getElem_mem hj)).1] at h1;exact h1))
 have HF64:=Lib.hid (fun j (hj:j<R.length) p (hp:p<T.n)=>(show fR R j p≤64 from by rw [fR_eq hj];exact (hc _ (List.getElem_mem hj)).val hV hp))
 have pb4:∀ w',Ext w w'→g4<w'.heap.size:=fun w' x=>Nat.lt_of_lt_of_le hgl x.le
 unfold RmaxPost2
 obtain ⟨ta,hta⟩:∃ z,z=T.a:=⟨_,rfl⟩
 obtain ⟨da,hda⟩:∃ z,z=D.s.a:=⟨_,rfl⟩
 obtain ⟨len,hlen⟩:∃ z,z=R.length:=⟨_,rfl⟩
 have HLE:=Lib.hid hlen
 simp only [TM.val,←hta] at HVL ⊢
 rw [←hda] at HVL
 rw [←hda,←hlen]
 rw [←hlen] at h0 hl
 have h0':(0:Int)<(len:Int):=by omega
 clear hT hD hO hV hR hc hp4 hget hgl hta hda hlen
 go_enter Tryz.func21,Tryz.ntmps21
 go_upto_region 1 with fail
 refine boxed1 (w:=w) (G:=fun x=>Code.wp _ _ _ _ x) ?_
 intro wi hx1 hs1 ⟨l0,c0,_,_⟩
 have hx1i:Ext wi wi:=Ext.refl _
 have hxwi:=hx1
 clear hs1
 have hR0:0<R.length:=by rw [←HLE.out];exact h0
 have hcell:=HCE.out 0 hR0
 rw [Nat.add_zero] at hcell
 have hvl:=HVL.out 0 hR0 wi.drew hxwi.drew
 obtain ⟨ra,hra⟩:∃ z,z=R[0].a:=⟨_,rfl⟩
 obtain ⟨rc,hrc⟩:∃ z,z=R[0].c:=⟨_,rfl⟩
 have HNR:=Lib.hid (fun W (x:Ext w W)=>(show NumAt W T.n ra R[0].g R[0].o (natV (fR R 0)) from by rw [hra];exact HNM.out 0 hR0 W x))
 rw [←hra,←hrc] at hvl hcell
 obtain ⟨s0,hs0⟩:∃ z,z=T.sumAt D.l (fR R 0):=⟨_,rfl⟩
 have HS0:=Lib.hid hs0
 rw [←hs0] at hvl
 clear hra hrc hs0
 go_upto_region 1 with fail
 refine wp_region_held_drew (S:=fun w'=>Ext wi w') (by kernel_rfl) (Ext.refl _).drew (fun hHeld=>?_)
 refine hQ 0 (v:=?_) rfl (y:=.inl ⟨by rfl,?_⟩) (h:=?_)
 rotate_left
 ·(intro w' hSw;(try dsimp only at hSw);have hS1:=hx1i.trans hSw;have hS0:=hxwi.trans hSw;have hSS:=Ext.refl w';go_simp;try with_reducible rfl)
 try simp only [Act.put,zA,zB,zC]
 refine hQ 1 (v:=?_) rfl (y:=.inl ⟨by rfl,?_⟩) (h:=?_)
 rotate_left
 ·(intro w' hSw;(try dsimp only at hSw);have hS1:=hx1i.trans hSw;have hS0:=hxwi.trans hSw;have hSS:=Ext.refl w';go_simp;try with_reducible rfl)
 try simp only [Act.put,zA,zB,zC]
 refine hQ 2 (v:=?_) rfl (y:=.inl ⟨by rfl,?_⟩) (h:=?_)
 rotate_left
 ·(intro w' hSw;(try dsimp only at hSw);have hS1:=hx1i.trans hSw;have hS0:=hxwi.trans hSw;have hSS:=Ext.refl w';go_simp;try with_reducible rfl)
 try simp only [Act.put,zA,zB,zC]
 refine hQ 3 (v:=?_) rfl (y:=.inl ⟨by rfl,?_⟩) (h:=?_)
 rotate_left
 ·(intro w' hSw;(try dsimp only at hSw);have hS1:=hx1i.trans hSw;have hS0:=hxwi.trans hSw;have hSS:=Ext.refl w';go_simp;try with_reducible rfl)
 try simp only [Act.put,zA,zB,zC]
 refine hQ 4 (v:=?_) rfl (y:=.inl ⟨by rfl,?_⟩) (h:=?_)
 rotate_left
 ·(intro w' hSw;(try dsimp only at hSw);have hS1:=hx1i.trans hSw;have hS0:=hxwi.trans hSw;have hSS:=Ext.refl w';go_simp;try with_reducible rfl)
 try simp only [Act.put,zA,zB,zC]
 refine wpAnyH_ready (rs:=[5]) (by kernel_rfl) (by simp) ?_
 refine AllReadyH.cons rfl (fun K hK=>?_) AllReadyH.nil
 go_simp
 go_at_call 31
 refine hvl.mono ?_
 rintro e w2 ⟨rfl,hx2⟩
 have hx12:Ext wi w2:=(Ext.refl wi).drew.trans hx2
 refine hK.out _ _ ?_ (fun hHeld2=>?_)
 ·exact hx12
 clear hK K
 try simp only [Act.put,zA,zB,zC]
 refine wpAnyH_ready (rs:=[6]) (by kernel_rfl) (by simp) ?_
 refine AllReadyH.cons rfl (fun K hK=>?_) AllReadyH.nil
 go_simp
 refine hK.out _ _ ?_ (fun hHeld3=>?_)
 ·exact hx12
 clear hK K
 try simp only [Act.put,zA,zB,zC]
 refine wpAnyH_done (by kernel_rfl) ?_ _
 have hxw2:=hx1.trans hx12
 have hx22:Ext w2 w2:=Ext.refl _
 clear hHeld hHeld2 hHeld3 hvl hx2
 rename Ext w wi=>hxw1
 go_upto_region 3 with (
  (at_builtin;refine wpList_append_que _ rfl _ _ 28 28 rfl (base:=wi.heap.size) (e:=3) (size:=1) i0 (.int .i64 0) 8 Tryz.underlying28 hi0 hz0 hz1 hz2 rfl rfl (v:=.slice (some ⟨(w2).heap.size,0,none⟩) 0 0) (n:=0) (xs:=[]) ⟨rfl,.inl ⟨_,rfl,rfl,fun a e=>by cases e;exact (hx12).le⟩⟩ (by rw [World.size_alloc];have:=(hx12).le;omega) (.slice ra T.n rc) T.n (intCells (rowL (natV (fR R 0)) T.n)) rfl (by exact NumAt.src (((HNR.out _ hxw2)).ext (Ext.alloc _ _)) rc) (by unfold maxLen;omega) (by omega) ?_;rintro v5 w5 hq5 hg5 -)
  skip)
 rw [Nat.zero_add,List.nil_append] at hq5
 have hx15:Ext wi w5:=(hx12.alloc' _).below.grown hg5 (by rw [World.size_alloc];have:=hx12.le;omega) (by intro k hk;simp [Value.ownBlock] at hk;have:=hx12.le;omega)
 obtain ⟨g5,o5,c5,rfl,hw5,hb5⟩:=WRow.made hq5 (by omega)
 have HW5:=Lib.hid (And.intro hw5 hb5)
 have HM5:=Lib.hid (show MaxI T.n (T.toTr.sumAt D.l) R 1 s0 (fR R 0) from by rw [HS0.out];exact MaxI.one fun _ _=>rfl)
 clear hq5 hg5 hw5 hb5 hx12 hxw2 hx22
 go_wp2_with fail
 go_loopg [8,9,10] (len - 1) (fun gg v8 v9 v10 wr=>∃ (i:Nat) (b:Int) (c:Nat→Nat) (g o cap:Nat),1≤i∧i≤len∧gg=len - i∧v10=.int .i64 i∧v8=.int .i64 b∧v9=.slice (some ⟨g,o,none⟩) T.n cap∧WRow wr g o T.n c∧wi.heap.size≤g∧MaxI T.n (T.toTr.sumAt D.l) R i b c∧Ext wi wr)
 case atStart=>exact ⟨1,s0,fR R 0,g5,o5,c5,by omega,by omega,rfl,rfl,rfl,rfl,HW5.out.1,HW5.out.2,HM5.out,hx15⟩
 case round=>
  obtain ⟨i,b,c,g,o,cap,h1i,hi,rfl,rfl,rfl,rfl,hW,hgi,hM,hx1i⟩:=hrel
  have hxwi:=hxw1.trans hx1i
  have HW:=Lib.hid hW
  have HM:=Lib.hid hM
  clear hW hM hx15
  by_cases hli:i<len
  ·have hli':(i:Int)<(len:Int):=by omega
   have hiR:i<R.length:=by rw [←HLE.out];exact hli
   have hcell:=HCE.out i hiR
   have hvl:=HVL.out i hiR wr.drew hxwi.drew
   obtain ⟨ra,hra⟩:∃ z,z=R[i].a:=⟨_,rfl⟩
   obtain ⟨rc,hrc⟩:∃ z,z=R[i].c:=⟨_,rfl⟩
   have HNR:=Lib.hid (fun W (x:Ext w W)=>(show NumAt W T.n ra R[i].g R[i].o (natV (fR R i)) from by rw [hra];exact HNM.out i hiR W x))
   rw [←hra,←hrc] at hvl hcell
   obtain ⟨s,hs⟩:∃ z,z=T.toTr.sumAt D.l (fR R i):=⟨_,rfl⟩
   have HS:=Lib.hid hs
   rw [←hs] at hvl
   clear hra hrc hs
   go_upto_region 6 with fail
   refine wp_region_held_drew (S:=fun w'=>Ext wr w') (by kernel_rfl) (Ext.refl _).drew (fun hHeld=>?_)
   refine hQ 0 (v:=?_) rfl (y:=.inl ⟨by rfl,?_⟩) (h:=?_)
   rotate_left
   ·(intro w' hSw;(try dsimp only at hSw);have hS1:=hx1i.trans hSw;have hS0:=hxwi.trans hSw;have hSS:=Ext.refl w';go_simp;try with_reducible rfl)
   try simp only [Act.put,zA,zB,zC]
   refine hQ 1 (v:=?_) rfl (y:=.inl ⟨by rfl,?_⟩) (h:=?_)
   rotate_left
   ·(intro w' hSw;(try dsimp only at hSw);have hS1:=hx1i.trans hSw;have hS0:=hxwi.trans hSw;have hSS:=Ext.refl w';go_simp;try with_reducible rfl)
   try simp only [Act.put,zA,zB,zC]
   refine hQ 2 (v:=?_) rfl (y:=.inl ⟨by rfl,?_⟩) (h:=?_)
   rotate_left
   ·(intro w' hSw;(try dsimp only at hSw);have hS1:=hx1i.trans hSw;have hS0:=hxwi.trans hSw;have hSS:=Ext.refl w';go_simp;try with_reducible rfl)
   try simp only [Act.put,zA,zB,zC]
   refine hQ 3 (v:=?_) rfl (y:=.inl ⟨by rfl,?_⟩) (h:=?_)
   rotate_left
   ·(intro w' hSw;(try dsimp only at hSw);have hS1:=hx1i.trans hSw;have hS0:=hxwi.trans hSw;have hSS:=Ext.refl w';go_simp;try with_reducible rfl)
   try simp only [Act.put,zA,zB,zC]
   refine hQ 4 (v:=?_) rfl (y:=.inl ⟨by rfl,?_⟩) (h:=?_)
   rotate_left
   ·(intro w' hSw;(try dsimp only at hSw);have hS1:=hx1i.trans hSw;have hS0:=hxwi.trans hSw;have hSS:=Ext.refl w';go_simp;try with_reducible rfl)
   try simp only [Act.put,zA,zB,zC]
   refine hQ 5 (v:=?_) rfl (y:=.inl ⟨by rfl,?_⟩) (h:=?_)
   rotate_left
   ·(intro w' hSw;(try dsimp only at hSw);have hS1:=hx1i.trans hSw;have hS0:=hxwi.trans hSw;have hSS:=Ext.refl w';go_simp;try with_reducible rfl)
   try simp only [Act.put,zA,zB,zC]
   refine wpAnyH_ready (rs:=[6]) (by kernel_rfl) (by simp) ?_
   refine AllReadyH.cons rfl (fun K hK=>?_) AllReadyH.nil
   go_simp
   go_at_call 31
   refine hvl.mono ?_
   rintro e w2 ⟨rfl,hx2⟩
   have hxr2:Ext wr w2:=(Ext.refl wr).drew.trans hx2
   refine hK.out _ _ ?_ (fun hHeld2=>?_)
   ·exact hxr2
   clear hK K
   try simp only [Act.put,zA,zB,zC]
   refine wpAnyH_ready (rs:=[7]) (by kernel_rfl) (by simp) ?_
   refine AllReadyH.cons rfl (fun K hK=>?_) AllReadyH.nil
   go_simp
   refine hK.out _ _ ?_ (fun hHeld3=>?_)
   ·exact hxr2
   clear hK K
   try simp only [Act.put,zA,zB,zC]
   refine wpAnyH_done (by kernel_rfl) ?_ _
   have hx12:=hx1i.trans hxr2
   have hxw2:=hxwi.trans hxr2
   have hx22:Ext w2 w2:=Ext.refl _
   have HW2:=Lib.hid (HW.out.ext hxr2)
   clear hHeld hHeld2 hHeld3 hvl hx2
   by_cases hgt:b<s
   ·have d1:decide (b<s)=true:=decide_eq_true hgt
    have HMN:=Lib.hid (show MaxI T.n (T.toTr.sumAt D.l) R (i+1) s (fR R i) from by rw [HS.out];exact HM.out.more (by rw [←HS.out];exact hgt) fun _ _=>rfl)
    go_upto_region 5 with (
     (at_builtin;refine wpList_append_que _ rfl _ _ 28 28 rfl (base:=wi.heap.size) (e:=3) (size:=1) i0 (.int .i64 0) 8 Tryz.underlying28 hi0 hz0 hz1 hz2 rfl rfl (v:=.slice (some ⟨(w2).heap.size,0,none⟩) 0 0) (n:=0) (xs:=[]) ⟨rfl,.inl ⟨_,rfl,rfl,fun a e=>by cases e;exact (hx12).le⟩⟩ (by rw [World.size_alloc];have:=(hx12).le;omega) (.slice ra T.n rc) T.n (intCells (rowL (natV (fR R i)) T.n)) rfl (by exact NumAt.src (((HNR.out _ hxw2)).ext (Ext.alloc _ _)) rc) (by unfold maxLen;omega) (by omega) ?_;rintro v5 w5 hq5 hg5 -)
     skip)
    rw [Nat.zero_add,List.nil_append] at hq5
    have hx15:Ext wi w5:=(hx12.alloc' _).below.grown hg5 (by rw [World.size_alloc];have:=hx12.le;omega) (by intro k hk;simp [Value.ownBlock] at hk;have:=hx12.le;omega)
    obtain ⟨g5,o5,c5,rfl,hw5,hb5⟩:=WRow.made hq5 (by omega)
    have HW5:=Lib.hid (And.intro hw5 hb5)
    clear hq5 hg5 hw5 hb5
    go_wp2_with fail
    go_roundg (len - (i+1))
    case rel=>exact ⟨i+1,s,fR R i,g5,o5,c5,by omega,by omega,rfl,by go_num,rfl,rfl,HW5.out.1,HW5.out.2,HMN.out,hx15⟩
    case measure=>omega
   have d1:decide (b<s)=false:=decide_eq_false hgt
   by_cases heq:s=b
   ·have d2:(s == b)=true:=by simpa using heq
    have HEQ:=Lib.hid heq
    clear hgt heq
    go_wp2_with fail
    go_loopg [12] T.n (fun gg v12 wr=>∃ p:Nat,p≤T.n∧gg=T.n - p∧v12=.int .i64 p∧WRow wr g o T.n (fun q=>if q<p then min (c q) (fR R i q) else c q)∧Ext wi wr)
    case atStart=>exact ⟨0,by omega,rfl,rfl,HW2.out.like fun k hk=>if_neg (Nat.not_lt_zero k),hx12⟩
    case round=>
     obtain ⟨p,hp,rfl,rfl,hWp,hx1i⟩:=hrel
     have hxwi:=hxw1.trans hx1i
     have HWp:=Lib.hid hWp
     clear hWp hx12 hxw2 hx22 hxr2
     by_cases hpn:p<T.n
     ·have hpn':(p:Int)<(T.n:Int):=by omega
      have hnr:=HNR.out wr hxwi
      obtain ⟨rfl⟩:ra=some ⟨R[i].g,R[i].o,none⟩:=hnr.pa (by omega)
      obtain ⟨x,hx⟩:∃ x,x=c p:=⟨_,rfl⟩
      obtain ⟨y,hy⟩:∃ y,y=fR R i p:=⟨_,rfl⟩
      have hc1:=HWp.out.c p hpn
      simp only [if_neg (Nat.lt_irrefl p),←hx] at hc1
      have hc2:=hnr.c p hpn
      have hc2':wr.cell? ⟨R[i].g,R[i].o+p,none⟩=some (.int .i64 (y:Int)):=by rw [hy];exact hc2
      obtain ⟨rg,hrg⟩:∃ z,z=R[i].g:=⟨_,rfl⟩
      obtain ⟨ro,hro⟩:∃ z,z=R[i].o:=⟨_,rfl⟩
      rw [←hrg,←hro] at hcell hc2'
      have hlr:=hnr.pb (by omega)
      rw [←hrg] at hlr
      have cA:∀ w',Ext wr w'→w'.cell? ⟨g,o+p,none⟩=some (.int .i64 (x:Int)):=fun w' h=>h.cell hc1
      have lA:∀ w',Ext wr w'→g<w'.heap.size:=fun w' h=>Nat.lt_of_lt_of_le HWp.out.lt h.le
      have fA:∀ w',Ext wr w'→w'.frozen? ⟨g,o+p,none⟩=false:=fun w' h=>(h.frozen (p:=⟨g,o+p,none⟩) HWp.out.lt).trans (HWp.out.fr p hpn)
      have cR:∀ w',Ext wr w'→w'.cell? ⟨rg,ro+p,none⟩=some (.int .i64 (y:Int)):=fun w' h=>h.cell hc2'
      have lR:∀ w',Ext wr w'→rg<w'.heap.size:=fun w' h=>Nat.lt_of_lt_of_le hlr h.le
      have HXY:=Lib.hid (And.intro hx hy)
      have hrr:Ext wr wr:=Ext.refl _
      clear hc1 hc2 hc2' hlr hnr hx hy hrg hro
      have hmn:(min x y=x∧x≤y)∨(min x y=y∧y<x):=by omega
      go_upto_region 14 with fail
      rcases hmn with ⟨hm,hle⟩ | ⟨hm,hle⟩
      ·have q1:decide ((y:Int)<(x:Int))=false:=decide_eq_false (by omega)
       have q2:decide ((x:Int)≤(y:Int))=true:=decide_eq_true (by omega)
       have q3:decide (y<x)=false:=decide_eq_false (by omega)
       have q5:¬y<x:=by omega
       have q6:¬(y:Int)<(x:Int):=by omega
       refine wp_region_T (t:=15) (S:=fun _=>True) (R:=fun w'=>Ext wr w') (by kernel_rfl) trivial (Ext.refl wr).drew (fun hHeld=>?_)
       refine takeR 0 (v:=?_) rfl (by kernel_rfl) (by kernel_rfl) (by kernel_rfl) (by kernel_rfl) (by kernel_rfl) (fun _ _ _ h=>h) (by decide) (Or.inl ⟨by rfl,?_⟩) hHeld.1 hHeld.2 ?_
       rotate_left
       ·intro w' hSw
        have hSX:=hSw.2
        (try dsimp only at hSX)
        have hS0:=hxwi.trans hSX
        have hSS:=Ext.refl w'
        go_simp
        try with_reducible rfl
       try simp only [Act.put,zA,zB,zC]
       refine takeR 1 (v:=?_) rfl (by kernel_rfl) (by kernel_rfl) (by kernel_rfl) (by kernel_rfl) (by kernel_rfl) (fun _ _ _ h=>h) (by decide) (Or.inl ⟨by rfl,?_⟩) hHeld.1 hHeld.2 ?_
       rotate_left
       ·intro w' hSw
        have hSX:=hSw.2
        (try dsimp only at hSX)
        have hS0:=hxwi.trans hSX
        have hSS:=Ext.refl w'
        go_simp
        try with_reducible rfl
       try simp only [Act.put,zA,zB,zC]
       refine takeR 2 (v:=?_) rfl (by kernel_rfl) (by kernel_rfl) (by kernel_rfl) (by kernel_rfl) (by kernel_rfl) (fun _ _ _ h=>h) (by decide) (Or.inl ⟨by rfl,?_⟩) hHeld.1 hHeld.2 ?_
       rotate_left
       ·intro w' hSw
        have hSX:=hSw.2
        (try dsimp only at hSX)
        have hS0:=hxwi.trans hSX
        have hSS:=Ext.refl w'
        go_simp
        try with_reducible rfl
       try simp only [Act.put,zA,zB,zC]
       refine takeR 3 (v:=?_) rfl (by kernel_rfl) (by kernel_rfl) (by kernel_rfl) (by kernel_rfl) (by kernel_rfl) (fun _ _ _ h=>h) (by decide) (Or.inl ⟨by rfl,?_⟩) hHeld.1 hHeld.2 ?_
       rotate_left
       ·intro w' hSw
        have hSX:=hSw.2
        (try dsimp only at hSX)
        have hS0:=hxwi.trans hSX
        have hSS:=Ext.refl w'
        go_simp
        try with_reducible rfl
       try simp only [Act.put,zA,zB,zC]
       refine takeR 4 (v:=?_) rfl (by kernel_rfl) (by kernel_rfl) (by kernel_rfl) (by kernel_rfl) (by kernel_rfl) (fun _ _ _ h=>h) (by decide) (Or.inl ⟨by rfl,?_⟩) hHeld.1 hHeld.2 ?_
       rotate_left
       ·intro w' hSw
        have hSX:=hSw.2
        (try dsimp only at hSX)
        have hS0:=hxwi.trans hSX
        have hSS:=Ext.refl w'
        go_simp
        try with_reducible rfl
       try simp only [Act.put,zA,zB,zC]
       refine takeR 5 (v:=?_) rfl (by kernel_rfl) (by kernel_rfl) (by kernel_rfl) (by kernel_rfl) (by kernel_rfl) (fun _ _ _ h=>h) (by decide) (Or.inl ⟨by rfl,?_⟩) hHeld.1 hHeld.2 ?_
       rotate_left
       ·intro w' hSw
        have hSX:=hSw.2
        (try dsimp only at hSX)
        have hS0:=hxwi.trans hSX
        have hSS:=Ext.refl w'
        go_simp
        try with_reducible rfl
       try simp only [Act.put,zA,zB,zC]
       refine takeR 6 (v:=?_) rfl (by kernel_rfl) (by kernel_rfl) (by kernel_rfl) (by kernel_rfl) (by kernel_rfl) (fun _ _ _ h=>h) (by decide) (Or.inl ⟨by rfl,?_⟩) hHeld.1 hHeld.2 ?_
       rotate_left
       ·intro w' hSw
        have hSX:=hSw.2
        (try dsimp only at hSX)
        have hS0:=hxwi.trans hSX
        have hSS:=Ext.refl w'
        go_simp
        try with_reducible rfl
       try simp only [Act.put,zA,zB,zC]
       refine takeR 7 (v:=?_) rfl (by kernel_rfl) (by kernel_rfl) (by kernel_rfl) (by kernel_rfl) (by kernel_rfl) (fun _ _ _ h=>h) (by decide) (Or.inl ⟨by rfl,?_⟩) hHeld.1 hHeld.2 ?_
       rotate_left
       ·intro w' hSw
        have hSX:=hSw.2
        (try dsimp only at hSX)
        have hS0:=hxwi.trans hSX
        have hSS:=Ext.refl w'
        go_simp
        try with_reducible rfl
       try simp only [Act.put,zA,zB,zC]
       refine takeR 8 (v:=?_) rfl (by kernel_rfl) (by kernel_rfl) (by kernel_rfl) (by kernel_rfl) (by kernel_rfl) (fun _ _ _ h=>h) (by decide) (Or.inl ⟨by rfl,?_⟩) hHeld.1 hHeld.2 ?_
       rotate_left
       ·intro w' hSw
        have hSX:=hSw.2
        (try dsimp only at hSX)
        have hS0:=hxwi.trans hSX
        have hSS:=Ext.refl w'
        go_simp
        try with_reducible rfl
       try simp only [Act.put,zA,zB,zC]
       refine takeR 9 (v:=?_) rfl (by kernel_rfl) (by kernel_rfl) (by kernel_rfl) (by kernel_rfl) (by kernel_rfl) (fun _ _ _ h=>h) (by decide) (Or.inl ⟨by rfl,?_⟩) hHeld.1 hHeld.2 ?_
       rotate_left
       ·intro w' hSw
        have hSX:=hSw.2
        (try dsimp only at hSX)
        have hS0:=hxwi.trans hSX
        have hSS:=Ext.refl w'
        go_simp
        try with_reducible rfl
       try simp only [Act.put,zA,zB,zC]
       refine takeR 10 (v:=?_) rfl (by kernel_rfl) (by kernel_rfl) (by kernel_rfl) (by kernel_rfl) (by kernel_rfl) (fun _ _ _ h=>h) (by decide) (Or.inl ⟨by rfl,?_⟩) hHeld.1 hHeld.2 ?_
       rotate_left
       ·intro w' hSw
        have hSX:=hSw.2
        (try dsimp only at hSX)
        have hS0:=hxwi.trans hSX
        have hSS:=Ext.refl w'
        go_simp
        try with_reducible rfl
       try simp only [Act.put,zA,zB,zC]
       refine takeR 11 (v:=?_) rfl (by kernel_rfl) (by kernel_rfl) (by kernel_rfl) (by kernel_rfl) (by kernel_rfl) (fun _ _ _ h=>h) (by decide) (Or.inl ⟨by rfl,?_⟩) hHeld.1 hHeld.2 ?_
       rotate_left
       ·intro w' hSw
        have hSX:=hSw.2
        (try dsimp only at hSX)
        have hS0:=hxwi.trans hSX
        have hSS:=Ext.refl w'
        go_simp
        try with_reducible rfl
       try simp only [Act.put,zA,zB,zC]
       refine takeR 12 (v:=?_) rfl (by kernel_rfl) (by kernel_rfl) (by kernel_rfl) (by kernel_rfl) (by kernel_rfl) (fun _ _ _ h=>h) (by decide) (Or.inl ⟨by rfl,?_⟩) hHeld.1 hHeld.2 ?_
       rotate_left
       ·intro w' hSw
        have hSX:=hSw.2
        (try dsimp only at hSX)
        have hS0:=hxwi.trans hSX
        have hSS:=Ext.refl w'
        go_simp
        try with_reducible rfl
       try simp only [Act.put,zA,zB,zC]
       refine takeR 13 (v:=?_) rfl (by kernel_rfl) (by kernel_rfl) (by kernel_rfl) (by kernel_rfl) (by kernel_rfl) (fun _ _ _ h=>h) (by decide) (Or.inl ⟨by rfl,?_⟩) hHeld.1 hHeld.2 ?_
       rotate_left
       ·intro w' hSw
        have hSX:=hSw.2
        (try dsimp only at hSX)
        have hS0:=hxwi.trans hSX
        have hSS:=Ext.refl w'
        go_simp
        try with_reducible rfl
       try simp only [Act.put,zA,zB,zC]
       refine takeR 14 (v:=?_) rfl (by kernel_rfl) (by kernel_rfl) (by kernel_rfl) (by kernel_rfl) (by kernel_rfl) (fun _ _ _ h=>h) (by decide) (Or.inl ⟨by rfl,?_⟩) hHeld.1 hHeld.2 ?_
       rotate_left
       ·intro w' hSw
        have hSX:=hSw.2
        (try dsimp only at hSX)
        have hS0:=hxwi.trans hSX
        have hSS:=Ext.refl w'
        go_simp
        try with_reducible rfl
       try simp only [Act.put,zA,zB,zC]
       have hdd:Ext wr wr.drew:=(Ext.refl wr).drew
       refine wpAnyT_ready (rs:=[15]) (by kernel_rfl) (by simp) ?_
       refine AllReadyT.late rfl (by decide) (fun K hK=>?_) AllReadyT.nil
       go_simp
       refine hK.out _ _ trivial (fun hHeld=>?_)
       clear hK K
       try simp only [Act.put,zA,zB,zC]
       refine wpAnyT_done (by kernel_rfl) ?_ _
       generalize hw11:(wr.setCell ⟨g,o+p,none⟩ (Value.int .i64 (x:Int))).drew=w11
       have HW11:=Lib.hid (show WRow w11 g o T.n (fun q=>if q<p+1 then min (c q) (fR R i q) else c q) from by
        rw [←hw11]
        exact ((HWp.out.set p x).ext (Ext.refl _).drew).like fun j hj=>by
         by_cases e:j=p
         ·subst e;rw [if_pos rfl,if_pos (Nat.lt_succ_self j),←HXY.out.1,←HXY.out.2];exact hm
         ·rw [if_neg e]
          by_cases e2:j<p
          ·rw [if_pos e2,if_pos (by omega)]
          ·rw [if_neg e2,if_neg (by omega)])
       have hx111:Ext wi w11:=by rw [←hw11];exact (hx1i.setCell hgi _).drew
       clear hw11 cA lA fA cR lR hdd hrr
       go_wp2_with fail
       go_roundg (T.n - (p+1))
       case rel=>exact ⟨p+1,by omega,rfl,by go_num,HW11.out,hx111⟩
       case measure=>omega
      ·have q1:decide ((y:Int)<(x:Int))=true:=decide_eq_true (by omega)
       have q3:decide (y<x)=true:=decide_eq_true (by omega)
       have q6:(y:Int)<(x:Int):=by omega
       refine wp_region_T (t:=15) (S:=fun _=>True) (R:=fun w'=>Ext wr w') (by kernel_rfl) trivial (Ext.refl wr).drew (fun hHeld=>?_)
       refine takeR 0 (v:=?_) rfl (by kernel_rfl) (by kernel_rfl) (by kernel_rfl) (by kernel_rfl) (by kernel_rfl) (fun _ _ _ h=>h) (by decide) (Or.inl ⟨by rfl,?_⟩) hHeld.1 hHeld.2 ?_
       rotate_left
       ·intro w' hSw
        have hSX:=hSw.2
        (try dsimp only at hSX)
        have hS0:=hxwi.trans hSX
        have hSS:=Ext.refl w'
        go_simp
        try with_reducible rfl
       try simp only [Act.put,zA,zB,zC]
       refine takeR 1 (v:=?_) rfl (by kernel_rfl) (by kernel_rfl) (by kernel_rfl) (by kernel_rfl) (by kernel_rfl) (fun _ _ _ h=>h) (by decide) (Or.inl ⟨by rfl,?_⟩) hHeld.1 hHeld.2 ?_
       rotate_left
       ·intro w' hSw
        have hSX:=hSw.2
        (try dsimp only at hSX)
        have hS0:=hxwi.trans hSX
        have hSS:=Ext.refl w'
        go_simp
        try with_reducible rfl
       try simp only [Act.put,zA,zB,zC]
       refine takeR 2 (v:=?_) rfl (by kernel_rfl) (by kernel_rfl) (by kernel_rfl) (by kernel_rfl) (by kernel_rfl) (fun _ _ _ h=>h) (by decide) (Or.inl ⟨by rfl,?_⟩) hHeld.1 hHeld.2 ?_
       rotate_left
       ·intro w' hSw
        have hSX:=hSw.2
        (try dsimp only at hSX)
        have hS0:=hxwi.trans hSX
        have hSS:=Ext.refl w'
        go_simp
        try with_reducible rfl
       try simp only [Act.put,zA,zB,zC]
       refine takeR 3 (v:=?_) rfl (by kernel_rfl) (by kernel_rfl) (by kernel_rfl) (by kernel_rfl) (by kernel_rfl) (fun _ _ _ h=>h) (by decide) (Or.inl ⟨by rfl,?_⟩) hHeld.1 hHeld.2 ?_
       rotate_left
       ·intro w' hSw
        have hSX:=hSw.2
        (try dsimp only at hSX)
        have hS0:=hxwi.trans hSX
        have hSS:=Ext.refl w'
        go_simp
        try with_reducible rfl
       try simp only [Act.put,zA,zB,zC]
       refine takeR 4 (v:=?_) rfl (by kernel_rfl) (by kernel_rfl) (by kernel_rfl) (by kernel_rfl) (by kernel_rfl) (fun _ _ _ h=>h) (by decide) (Or.inl ⟨by rfl,?_⟩) hHeld.1 hHeld.2 ?_
       rotate_left
       ·intro w' hSw
        have hSX:=hSw.2
        (try dsimp only at hSX)
        have hS0:=hxwi.trans hSX
        have hSS:=Ext.refl w'
        go_simp
        try with_reducible rfl
       try simp only [Act.put,zA,zB,zC]
       refine takeR 5 (v:=?_) rfl (by kernel_rfl) (by kernel_rfl) (by kernel_rfl) (by kernel_rfl) (by kernel_rfl) (fun _ _ _ h=>h) (by decide) (Or.inl ⟨by rfl,?_⟩) hHeld.1 hHeld.2 ?_
       rotate_left
       ·intro w' hSw
        have hSX:=hSw.2
        (try dsimp only at hSX)
        have hS0:=hxwi.trans hSX
        have hSS:=Ext.refl w'
        go_simp
        try with_reducible rfl
       try simp only [Act.put,zA,zB,zC]
       refine takeR 6 (v:=?_) rfl (by kernel_rfl) (by kernel_rfl) (by kernel_rfl) (by kernel_rfl) (by kernel_rfl) (fun _ _ _ h=>h) (by decide) (Or.inl ⟨by rfl,?_⟩) hHeld.1 hHeld.2 ?_
       rotate_left
       ·intro w' hSw
        have hSX:=hSw.2
        (try dsimp only at hSX)
        have hS0:=hxwi.trans hSX
        have hSS:=Ext.refl w'
        go_simp
        try with_reducible rfl
       try simp only [Act.put,zA,zB,zC]
       refine takeR 7 (v:=?_) rfl (by kernel_rfl) (by kernel_rfl) (by kernel_rfl) (by kernel_rfl) (by kernel_rfl) (fun _ _ _ h=>h) (by decide) (Or.inl ⟨by rfl,?_⟩) hHeld.1 hHeld.2 ?_
       rotate_left
       ·intro w' hSw
        have hSX:=hSw.2
        (try dsimp only at hSX)
        have hS0:=hxwi.trans hSX
        have hSS:=Ext.refl w'
        go_simp
        try with_reducible rfl
       try simp only [Act.put,zA,zB,zC]
       refine takeR 8 (v:=?_) rfl (by kernel_rfl) (by kernel_rfl) (by kernel_rfl) (by kernel_rfl) (by kernel_rfl) (fun _ _ _ h=>h) (by decide) (Or.inl ⟨by rfl,?_⟩) hHeld.1 hHeld.2 ?_
       rotate_left
       ·intro w' hSw
        have hSX:=hSw.2
        (try dsimp only at hSX)
        have hS0:=hxwi.trans hSX
        have hSS:=Ext.refl w'
        go_simp
        try with_reducible rfl
       try simp only [Act.put,zA,zB,zC]
       refine takeR 9 (v:=?_) rfl (by kernel_rfl) (by kernel_rfl) (by kernel_rfl) (by kernel_rfl) (by kernel_rfl) (fun _ _ _ h=>h) (by decide) (Or.inl ⟨by rfl,?_⟩) hHeld.1 hHeld.2 ?_
       rotate_left
       ·intro w' hSw
        have hSX:=hSw.2
        (try dsimp only at hSX)
        have hS0:=hxwi.trans hSX
        have hSS:=Ext.refl w'
        go_simp
        try with_reducible rfl
       try simp only [Act.put,zA,zB,zC]
       refine takeR 10 (v:=?_) rfl (by kernel_rfl) (by kernel_rfl) (by kernel_rfl) (by kernel_rfl) (by kernel_rfl) (fun _ _ _ h=>h) (by decide) (Or.inl ⟨by rfl,?_⟩) hHeld.1 hHeld.2 ?_
       rotate_left
       ·intro w' hSw
        have hSX:=hSw.2
        (try dsimp only at hSX)
        have hS0:=hxwi.trans hSX
        have hSS:=Ext.refl w'
        go_simp
        try with_reducible rfl
       try simp only [Act.put,zA,zB,zC]
       refine takeR 11 (v:=?_) rfl (by kernel_rfl) (by kernel_rfl) (by kernel_rfl) (by kernel_rfl) (by kernel_rfl) (fun _ _ _ h=>h) (by decide) (Or.inl ⟨by rfl,?_⟩) hHeld.1 hHeld.2 ?_
       rotate_left
       ·intro w' hSw
        have hSX:=hSw.2
        (try dsimp only at hSX)
        have hS0:=hxwi.trans hSX
        have hSS:=Ext.refl w'
        go_simp
        try with_reducible rfl
       try simp only [Act.put,zA,zB,zC]
       refine takeR 12 (v:=?_) rfl (by kernel_rfl) (by kernel_rfl) (by kernel_rfl) (by kernel_rfl) (by kernel_rfl) (fun _ _ _ h=>h) (by decide) (Or.inl ⟨by rfl,?_⟩) hHeld.1 hHeld.2 ?_
       rotate_left
       ·intro w' hSw
        have hSX:=hSw.2
        (try dsimp only at hSX)
        have hS0:=hxwi.trans hSX
        have hSS:=Ext.refl w'
        go_simp
        try with_reducible rfl
       try simp only [Act.put,zA,zB,zC]
       refine takeR 13 (v:=?_) rfl (by kernel_rfl) (by kernel_rfl) (by kernel_rfl) (by kernel_rfl) (by kernel_rfl) (fun _ _ _ h=>h) (by decide) (Or.inl ⟨by rfl,?_⟩) hHeld.1 hHeld.2 ?_
       rotate_left
       ·intro w' hSw
        have hSX:=hSw.2
        (try dsimp only at hSX)
        have hS0:=hxwi.trans hSX
        have hSS:=Ext.refl w'
        go_simp
        try with_reducible rfl
       try simp only [Act.put,zA,zB,zC]
       refine takeR 14 (v:=?_) rfl (by kernel_rfl) (by kernel_rfl) (by kernel_rfl) (by kernel_rfl) (by kernel_rfl) (fun _ _ _ h=>h) (by decide) (Or.inl ⟨by rfl,?_⟩) hHeld.1 hHeld.2 ?_
       rotate_left
       ·intro w' hSw
        have hSX:=hSw.2
        (try dsimp only at hSX)
        have hS0:=hxwi.trans hSX
        have hSS:=Ext.refl w'
        go_simp
        try with_reducible rfl
       try simp only [Act.put,zA,zB,zC]
       have hdd:Ext wr wr.drew:=(Ext.refl wr).drew
       refine wpAnyT_ready (rs:=[15]) (by kernel_rfl) (by simp) ?_
       refine AllReadyT.late rfl (by decide) (fun K hK=>?_) AllReadyT.nil
       go_simp
       refine hK.out _ _ trivial (fun hHeld=>?_)
       clear hK K
       try simp only [Act.put,zA,zB,zC]
       refine wpAnyT_done (by kernel_rfl) ?_ _
       generalize hw11:(wr.setCell ⟨g,o+p,none⟩ (Value.int .i64 (y:Int))).drew=w11
       have HW11:=Lib.hid (show WRow w11 g o T.n (fun q=>if q<p+1 then min (c q) (fR R i q) else c q) from by
        rw [←hw11]
        exact ((HWp.out.set p y).ext (Ext.refl _).drew).like fun j hj=>by
         by_cases e:j=p
         ·subst e;rw [if_pos rfl,if_pos (Nat.lt_succ_self j),←HXY.out.1,←HXY.out.2];exact hm
         ·rw [if_neg e]
          by_cases e2:j<p
          ·rw [if_pos e2,if_pos (by omega)]
          ·rw [if_neg e2,if_neg (by omega)])
       have hx111:Ext wi w11:=by rw [←hw11];exact (hx1i.setCell hgi _).drew
       clear hw11 cA lA fA cR lR hdd hrr
       go_wp2_with fail
       go_roundg (T.n - (p+1))
       case rel=>exact ⟨p+1,by omega,rfl,by go_num,HW11.out,hx111⟩
       case measure=>omega
     ·obtain rfl:p=T.n:=by omega
      have HMN:=Lib.hid (show MaxI T.n (T.toTr.sumAt D.l) R (i+1) b (fun q=>if q<T.n then min (c q) (fR R i q) else c q) from HM.out.same (by rw [←HS.out];exact HEQ.out) fun q hq=>if_pos hq)
      go_wp2_with fail
      go_roundg (len - (i+1))
      case rel=>exact ⟨i+1,b,_,g,o,cap,by omega,by omega,rfl,by go_num,rfl,rfl,HWp.out,hgi,HMN.out,hx1i⟩
      case measure=>omega
   have d2:(s == b)=false:=by simpa using heq
   have HMN:=Lib.hid (show MaxI T.n (T.toTr.sumAt D.l) R (i+1) b c from HM.out.less (by rw [←HS.out];omega))
   clear hgt heq
   go_wp2_with fail
   go_roundg (len - (i+1))
   case rel=>exact ⟨i+1,b,c,g,o,cap,by omega,by omega,rfl,by go_num,rfl,rfl,HW2.out,hgi,HMN.out,hx12⟩
   case measure=>omega
  ·obtain rfl:i=len:=by omega
   go_wp2_with fail
   go_ret2
   exact ⟨hxwi,b,g,o,cap,c,rfl,HW.out.num (by omega),HM.out,Nat.le_trans hxw1.le hgi⟩
theorem rmax_any (w : World) (T : TM) (hT : T.At w) (D : TmD) (hD : D.At w) (hO : T.SumOk D.l) (base : Nat) (v : Value) (R : List Row) (hR : RowsQ w base v R) (h0 : 0 < R.length) (hl : R.length ≤ 5000) (hc : ∀ x ∈ R, CutL T.toTr x.l) :
    Calls Tryz.prog 21 #[T.val,v,.slice D.s.a D.s.n D.s.c] w (RmaxPost T D.l R w):=
 (rmax2_any w T hT D hD hO base v R hR h0 hl hc).mono fun _ _ ⟨hx,v,g,o,cap,c,he,hn,hm,_⟩=>⟨hx,v,g,o,cap,c,he,hn,hm⟩
def RminPost (T:TM) (ts:List Trm) (R:List Row) (w:World) (e:Ending) (w':World):Prop:=Ext w w'∧∃ v g o cap c,e=.returned (.tuple #[.int .i64 (- v),.slice (some ⟨g,o,none⟩) T.n cap])∧NumAt w' T.n (some ⟨g,o,none⟩) g o (natV c)∧MaxI T.n (T.sumAt (oppL ts)) R R.length v c
def RminPost2 (T:TM) (ts:List Trm) (R:List Row) (w:World) (e:Ending) (w':World):Prop:=Ext w w'∧∃ v g o cap c,e=.returned (.tuple #[.int .i64 (- v),.slice (some ⟨g,o,none⟩) T.n cap])∧NumAt w' T.n (some ⟨g,o,none⟩) g o (natV c)∧MaxI T.n (T.sumAt (oppL ts)) R R.length v c∧w.heap.size≤g
set_option maxHeartbeats 4000000 in
theorem rmin2_any (w : World) (T : TM) (hT : T.At w) (D : TmD) (hD : D.At w) (hO : T.SumOk D.l) (base : Nat) (v : Value) (R : List Row) (hR : RowsQ w base v R) (h0 : 0 < R.length) (hl : R.length ≤ 5000) (hc : ∀ x ∈ R, CutL T.toTr x.l) :
    Calls Tryz.prog 22 #[T.val,v,.slice D.s.a D.s.n D.s.c] w (RminPost2 T D.l R w):=by
 have HOP:=Lib.hid (fun W (x:Ext w W)=>ropp_any W D (hD.ext x) hO.coef hO.len)
 have HMX:=Lib.hid (fun W (x:Ext w W) D3 (hD3:TmD.At D3 W) (he:D3.l=oppL D.l)=>(show Calls Tryz.prog 21 #[T.val,v,.slice D3.s.a D3.s.n D3.s.c] W (RmaxPost2 T (oppL D.l) R W) from by
  have h1:=rmax2_any W T (hT.ext x) D3 hD3 (by rw [he];exact hO.opp) base v R (hR.ext x) h0 hl hc
  rw [he] at h1;exact h1))
 have HOO:=Lib.hid hO.opp
 have HCL:=Lib.hid hc
 have HOK:=Lib.hid (fun W (x:Ext w W) v' (hq:TmOwn W w.heap.size v' (oppL D.l))=>(show ∃ D3:TmD,v'=.slice D3.s.a D3.s.n D3.s.c∧D3.l=oppL D.l∧D3.At W from hq.tmd (by have:=hO.opp.len;omega) (trmOk_opp hD.ok hO.coef)))
 obtain ⟨va,vc,rfl⟩:=hR.1.slice
 unfold RminPost2
 simp only [TM.val] at HMX ⊢
 clear hT hD hO hR h0 hl hc
 go_enter Tryz.func22,Tryz.ntmps22
 go_upto_region 1 with fail
 refine boxed1 (w:=w) (G:=fun x=>Code.wp _ _ _ _ x) ?_
 intro w1 hx1 hs1 ⟨l0,c0,_,_⟩
 have hop:=HOP.out w1.drew hx1.drew
 clear hs1
 refine wp_region_held_drew (S:=fun w'=>Ext w1 w') (by kernel_rfl) (Ext.refl _).drew (fun hHeld=>?_)
 refine hQ 0 (v:=?_) rfl (y:=.inl ⟨by rfl,?_⟩) (h:=?_)
 rotate_left
 ·(intro w' hSw;(try dsimp only at hSw);have hSS:=Ext.refl w';go_simp;try with_reducible rfl)
 try simp only [Act.put,zA,zB,zC]
 refine hQ 1 (v:=?_) rfl (y:=.inl ⟨by rfl,?_⟩) (h:=?_)
 rotate_left
 ·(intro w' hSw;(try dsimp only at hSw);have hSS:=Ext.refl w';go_simp;try with_reducible rfl)
 try simp only [Act.put,zA,zB,zC]
 refine hQ 2 (v:=?_) rfl (y:=.inl ⟨by rfl,?_⟩) (h:=?_)
 rotate_left
 ·(intro w' hSw;(try dsimp only at hSw);have hSS:=Ext.refl w';go_simp;try with_reducible rfl)
 try simp only [Act.put,zA,zB,zC]
 refine wpAnyH_ready (rs:=[3]) (by kernel_rfl) (by simp) ?_
 refine AllReadyH.cons rfl (fun K hK=>?_) AllReadyH.nil
 go_simp
 go_at_call 35
 refine hop.mono ?_
 rintro e w2 ⟨hx2,v2,rfl,hq2⟩
 have hx12:Ext w1 w2:=(Ext.refl w1).drew.trans hx2
 obtain ⟨D3,rfl,hD3l,hD3⟩:=HOK.out w2 (hx1.trans hx12) v2 (hq2.mono (by have:=hx1.le;simpa using this))
 refine hK.out _ _ ?_ (fun hHeld2=>?_)
 ·exact hx12
 clear hK K
 try simp only [Act.put,zA,zB,zC]
 have hmx:=HMX.out w2 (hx1.trans hx12) D3 hD3 hD3l
 refine wpAnyH_ready (rs:=[4]) (by kernel_rfl) (by simp) ?_
 refine AllReadyH.cons rfl (fun K hK=>?_) AllReadyH.nil
 go_simp
 go_at_call 21
 refine hmx.mono ?_
 rintro e w3 ⟨hx3,mv,g,o,cap,c,rfl,hN,hM,hgg⟩
 have HGG:=Lib.hid (Nat.le_trans (Nat.le_trans hx1.le hx12.le) hgg)
 clear hgg
 have hx13:=hx12.trans hx3
 refine hK.out _ _ ?_ (fun hHeld3=>?_)
 ·exact hx13
 clear hK K
 try simp only [Act.put,zA,zB,zC]
 have HMI:=Lib.hid (And.intro hN hM)
 have hsm:-562949953421312≤mv∧mv≤562949953421312:=by
  obtain ⟨j,hj,h1⟩:=hM.ex
  rw [←h1]
  refine HOO.out.small fun p hp=>?_
  rw [fR_eq hj]
  exact (HCL.out _ (List.getElem_mem hj)).2.le p hp
 refine hQ 5 (v:=?_) rfl (y:=.inl ⟨by rfl,?_⟩) (h:=?_)
 rotate_left
 ·(intro w' hSw;(try dsimp only at hSw);have hSS:=Ext.refl w';go_simp;try with_reducible rfl)
 try simp only [Act.put,zA,zB,zC]
 refine hQ 6 (v:=?_) rfl (y:=.inl ⟨by rfl,?_⟩) (h:=?_)
 rotate_left
 ·(intro w' hSw;(try dsimp only at hSw);have hSS:=Ext.refl w';go_simp;try with_reducible rfl)
 try simp only [Act.put,zA,zB,zC]
 refine hQ 7 (v:=?_) rfl (y:=.inl ⟨by rfl,?_⟩) (h:=?_)
 rotate_left
 ·(intro w' hSw;(try dsimp only at hSw);have hSS:=Ext.refl w';go_simp;try with_reducible rfl)
 try simp only [Act.put,zA,zB,zC]
 refine wpAnyH_ready (rs:=[8]) (by kernel_rfl) (by simp) ?_
 refine AllReadyH.cons rfl (fun K hK=>?_) AllReadyH.nil
 go_simp
 refine hK.out _ _ ?_ (fun hHeld4=>?_)
 ·exact hx13
 clear hK K
 try simp only [Act.put,zA,zB,zC]
 refine wpAnyH_ready (rs:=[9]) (by kernel_rfl) (by simp) ?_
 refine AllReadyH.cons rfl (fun K hK=>?_) AllReadyH.nil
 go_simp
 refine hK.out _ _ ?_ (fun hHeld5=>?_)
 ·exact hx13
 clear hK K
 try simp only [Act.put,zA,zB,zC]
 refine wpAnyH_done (by kernel_rfl) ?_ _
 have hxw3:=hx1.trans hx13
 have hwn:IntKind.i64.wrap (0 - mv)=- mv:=by rw [IntWalk.i64_in _ (by omega)];omega
 clear hHeld hHeld2 hHeld3 hHeld4 hHeld5 hmx hop hq2 hN hM hD3
 go_wp2_with fail
 go_ret2
 exact ⟨hxw3,mv,g,o,cap,c,rfl,HMI.out.1,HMI.out.2,HGG.out⟩
theorem rmin_any (w : World) (T : TM) (hT : T.At w) (D : TmD) (hD : D.At w) (hO : T.SumOk D.l) (base : Nat) (v : Value) (R : List Row) (hR : RowsQ w base v R) (h0 : 0 < R.length) (hl : R.length ≤ 5000) (hc : ∀ x ∈ R, CutL T.toTr x.l) :
    Calls Tryz.prog 22 #[T.val,v,.slice D.s.a D.s.n D.s.c] w (RminPost T D.l R w):=
 (rmin2_any w T hT D hD hO base v R hR h0 hl hc).mono fun _ _ ⟨hx,v,g,o,cap,c,he,hn,hm,_⟩=>⟨hx,v,g,o,cap,c,he,hn,hm⟩
theorem MaxI.best {T:Tr} {s:(Nat→Nat)→Int} {R:List Row} {v b v':Int} {c c':Nat→Nat} {u:Nat→Int} (h:MaxI T.n s R R.length v c) (hR:IsCuts T (R.map Row.l)) (hs:∀ d,T.CutOk d→s d=b+T.atC u d) (hB:T.Best b u v' c'):v'=v∧∀ p,p<T.n→c' p=c p:=by
 have hcut:∀ j,j<R.length→T.CutOk (fR R j):=fun j hj=>by
  rw [fR_eq hj]
  exact ((hR.2 _).1 (List.mem_map.2 ⟨_,List.getElem_mem hj,rfl⟩)).2
 -- the program's cut is in the list
 have hin:∃ j,j<R.length∧∀ p,p<T.n→fR R j p=c' p:=by
  have h1:CutL T (rowOf T.n c'):=⟨rowOf_len _ _,hB.cut.congr fun p hp=>fn_rowOf hp⟩
  obtain ⟨x,hx,hl⟩:=List.mem_map.1 ((hR.2 _).2 h1)
  obtain ⟨j,hj,rfl⟩:=List.getElem_of_mem hx
  exact ⟨j,hj,fun p hp=>by rw [fR_eq hj,hl,fn_rowOf hp]⟩
 obtain ⟨j0,hj0,he0⟩:=hin
 have hval:s (fR R j0)=v':=by rw [hs _ (hcut j0 hj0),hB.val,Tr.atC_congr he0]
 obtain ⟨j1,hj1,he1⟩:=h.ex
 have h2:v≤v':=by rw [←he1,hs _ (hcut j1 hj1)];exact hB.above (hcut j1 hj1)
 have h3:v'≤v:=by rw [←hval];exact h.le j0 hj0
 have hv:v'=v:=by omega
 refine ⟨hv,fun p hp=>?_⟩
 have h4:=h.lo j0 hj0 (by rw [hval];exact hv) p hp
 rw [he0 p hp] at h4
 obtain ⟨j,hj,h5,h6⟩:=h.at_ p hp
 have h7:=hB.least _ (hcut j hj) (by have:=hs _ (hcut j hj);have:=hB.val;omega) p hp
 omega
end Go.Proofs.YtnknkkmdbnaglaaGreat
