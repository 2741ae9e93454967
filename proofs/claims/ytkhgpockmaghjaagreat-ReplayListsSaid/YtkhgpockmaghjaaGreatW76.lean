/- Contracts and laws in plain Lean for RLis: group W76. -/
import Derived.Test.YtkhgpockmaghjaaGreatW38
import Derived.Test.YtkhgpockmaghjaaGreatW75
import Derived.Test.YtkhgpockmaghjaaGreatW74
import Derived.Test.YtkhgpockmaghjaaGreatW50
namespace Go.Proofs.YtkhgpockmaghjaaGreat
open Go.RowKit Go.Shelf
attribute [local go_sem] Oper.semAt_some
structure LsJ (T:Tr) (L:List Syn) (w1:World) (k B:Nat) (v4 v5:Value) (RL RO:List Row) (wr:World):Prop where
 q4:RowsQ wr B v4 RL
 q5:RowsQ wr w1.heap.size v5 RO
 hx:Ext w1 wr
 hB:w1.heap.size≤B∧B≤wr.heap.size
 g4:∀ x∈RL,B≤x.g
 o5:∀ g,v5.ownBlock=some g→g<B
 a5:∀ x∈RO,v5.ownBlock≠some x.g
 s4:RL.Pairwise (Row.bef T.n)
 m4:∀ l,(∃ x∈RL,x.l=l)↔(PCutL T L l∧tot (fn l) T.n=k)
 s5:RO.Pairwise (Row.bef T.n)
 m5:∀ l,(∃ x∈RO,x.l=l)↔(PCutL T L l∧tot (fn l) T.n<k)
 n4:RL.length≤40000
 n5:RO.length≤5000
structure NlJ (T:Tr) (L:List Syn) (w4:World) (v6:Value) (RM:List Row) (P:List Nat→Prop) (m:Nat) (wr:World):Prop where
 q:RowsQ wr w4.heap.size v6 RM
 hx:Ext w4 wr
 g:∀ x∈RM,w4.heap.size≤x.g
 s:RM.Pairwise (Row.bef T.n)
 mem:∀ l,(∃ x∈RM,x.l=l)↔P l
 len:RM.length≤m
 ok:∀ x∈RM,PCutL T L x.l
theorem NlJ.like {T:Tr} {L:List Syn} {w4:World} {v6:Value} {RM:List Row} {P P':List Nat→Prop} {m m':Nat} {wr:World} (h:NlJ T L w4 v6 RM P m wr) (hp:∀ l,P l↔P' l) (hm:m≤m'):NlJ T L w4 v6 RM P' m' wr:=
 ⟨h.q,h.hx,h.g,h.s,fun l=>(h.mem l).trans (hp l),Nat.le_trans h.len hm,h.ok⟩
theorem NlJ.ext {T:Tr} {L:List Syn} {w4:World} {v6:Value} {RM:List Row} {P:List Nat→Prop} {m:Nat} {wr w':World} (h:NlJ T L w4 v6 RM P m wr) (x:Ext wr w'):NlJ T L w4 v6 RM P m w':=
 ⟨h.q.ext x,h.hx.trans x,h.g,h.s,h.mem,h.len,h.ok⟩
theorem NlJ.ins {T:Tr} {L:List Syn} {w4:World} {v6 v':Value} {RM R':List Row} {P:List Nat→Prop} {m:Nat} {wr w':World} (h:NlJ T L w4 v6 RM P m wr) {r:Row} (hi:InsIs T.n RM r R') (hq:RowsQ w' w4.heap.size v' R') (x:Ext wr w') (hr:PCutL T L r.l) (hg:w4.heap.size≤r.g):NlJ T L w4 v' R' (fun l=>P l∨l=r.l) (m+1) w':=by
 refine ⟨hq,h.hx.trans x,fun y hy=>?_,hi.sorted h.s (fun y hy=>(h.ok y hy).1) hr.1,fun l=>(hi.mem.2 l).trans ⟨fun k=>k.elim (fun e=>.inr e) fun e=>.inl ((h.mem l).1 e),fun k=>k.elim (fun e=>.inr ((h.mem l).2 e)) .inl⟩,Nat.le_trans hi.len (Nat.add_le_add_right h.len 1),fun y hy=>?_⟩
 ·rcases hi.mem.1 y hy with rfl | k
  ·exact hg
  ·exact h.g y k
 ·rcases hi.mem.1 y hy with rfl | k
  ·exact hr
  ·exact h.ok y k
theorem pnext_len (T:Tr) (L:List Syn) (l:List Nat):(T.pnext L l).length≤T.n:=by unfold Tr.pnext;rw [List.length_map];exact T.pnL_len _ _ _
theorem row_step {w:World} {n g o cap:Nat} {c:Nat→Nat} (h:NumAt w n (some ⟨g,o,none⟩) g o (natV c)):Row.At ⟨rowOf n c,some ⟨g,o,none⟩,g,o,cap⟩ w:=by
 show NumAt w (rowOf n c).length (some ⟨g,o,none⟩) g o (natV (fn (rowOf n c)))
 rw [rowOf_len]
 exact ⟨h.hn,h.pa,h.pb,fun j hj=>by rw [h.c j hj];show some (Value.int .i64 ((c j:Nat):Int))=some (Value.int .i64 ((fn (rowOf n c) j:Nat):Int));rw [fn_rowOf hj]⟩
def RcutPost (T:Tr) (L:List Syn) (w:World) (e:Ending) (w':World):Prop:=Ext w w'∧((∃ v R,e=.returned (.tuple #[v,.bool true])∧RowsQ w' w.heap.size v R∧IsPCuts T L (R.map Row.l)∧R.length≤5000)∨
 (e=.returned (.tuple #[.slice none 0 0,.bool false])∧∃ M:List (List Nat),M.Pairwise (fun a b=>befP T.n (fn a) (fn b))∧(∀ l∈M,PCutL T L l)∧5000<M.length))
set_option maxRecDepth 100000 in
set_option maxHeartbeats 8000000 in
theorem rcuts45_any (w:World) (T:TM) (hT:T.At w) (hV:T.toTr.Valid) (D:SyD) (hD:D.At w) (hL:SynOk T.toTr D.l) (hA:T.toTr.NoCyc D.l):Calls Tryz.prog 29 #[T.val,.slice D.s.a D.s.n D.s.c] w (RcutPost T.toTr D.l w):=by
 obtain ⟨i0,hi0,hz0,hz1,hz2⟩:=info_parts infoInt
 obtain ⟨j0,hj0,hy0,hy1,hy2⟩:=info_parts infoInts1
 have hn8:=hV.n8
 have hn1:=hV.n1
 have HNX:=Lib.hid (fun W (x:Ext w W) a g o cap (c:Nat→Nat) (hC:NumAt W T.n a g o (natV c)) (hc:∀ p,p<T.n→c p≤T.en p)=>rnext45_any W T (hT.ext x) hV D (hD.ext x) hL a g o cap c hC hc)
 have HV:=Lib.hid hV
 have HL:=Lib.hid hL
 have HA:=Lib.hid hA
 unfold RcutPost
 obtain ⟨ta,hta⟩:∃ z,z=T.a:=⟨_,rfl⟩
 obtain rfl:ta=some ⟨T.b,T.off,none⟩:=by rw [hta];exact hT.P.pa (by omega)
 obtain ⟨da,hda⟩:∃ z,z=D.s.a:=⟨_,rfl⟩
 obtain ⟨dn,hdn⟩:∃ z,z=D.s.n:=⟨_,rfl⟩
 simp only [TM.val,←hta] at HNX ⊢
 rw [←hda,←hdn] at HNX
 rw [←hda,←hdn]
 clear hT hV hD hL hA hta hda hdn
 go_enter Tryz.func29,Tryz.ntmps29
 go_upto_region 1 with fail
 refine boxed1 (w:=w) (G:=fun x=>Code.wp _ _ _ _ x) ?_
 intro w1 hx1 hs1 ⟨l0,c0,_,_⟩
 have hx11:Ext w1 w1:=Ext.refl _
 clear hs1
 go_upto_region 2 with (at_make;refine wpList_make_full _ rfl _ _ 39 rfl w1.heap.size 3 i0 (.int .i64 0) 1 Tryz.underlying39 hi0 hz0 hz1 .i64 .i64 _ _ T.n rfl rfl rfl rfl (by rw [hz2];omega) (by unfold maxLen;omega) (Nat.le_refl _) ?_;intro w2 hown2 hg2)
 have hx12:Ext w1 w2:=(Below.refl _ _).grown hg2 (Nat.le_refl _) (by simp)
 have HI2:=Lib.hid (IntRow.made hown2)
 clear hown2 hg2
 refine boxed1 (w:=w2) (G:=fun x=>Code.wp _ _ _ _ x) ?_
 intro w3 hx3 hs3 ⟨_,_,_,k3⟩
 have hx13:=hx12.trans hx3
 obtain ⟨b2,hb2⟩:∃ z,z=w2.heap.size:=⟨_,rfl⟩
 obtain ⟨b1,hb1⟩:∃ z,z=w1.heap.size:=⟨_,rfl⟩
 rw [←hb2] at k3 ⊢
 rw [←hb1] at k3 HI2 ⊢
 have hf0:∀ p,fn (List.replicate T.n 0) p=0:=fun p=>by unfold fn;rw [List.getD_eq_getElem?_getD,List.getElem?_replicate];split <;> rfl
 have hz:tot (fun _=>0) T.n=0:=by
  have:∀ n,tot (fun _=>0) n=0:=fun n=>by induction n with | zero=>rfl | succ n ih=>exact ih
  exact this _
 have hc0:PCutL T.toTr D.l (List.replicate T.n 0):=⟨List.length_replicate,(PCut.zero HL.out).congr HL.out fun p _=>hf0 p⟩
 have HST:=Lib.hid (show LsJ T.toTr D.l w1 0 b1 (.slice (some ⟨b2,0,none⟩) 1 1) (.slice none 0 0) [⟨List.replicate T.n 0,some ⟨b1,0,none⟩,b1,0,T.n⟩] [] w3 from by
  refine ⟨⟨by show Que w3 b1 1 _ 1 [Value.slice (some ⟨b1,0,none⟩) (List.replicate T.n 0).length T.n];rw [List.length_replicate];exact Que.ofHold1 k3 (by have:=hx12.le;omega),fun x hx=>?_⟩,RowsQ.nil _ _,hx13,⟨by omega,by have:=hx13.le;omega⟩,fun x hx=>?_,fun g e=>(by cases e),fun x hx=>(by cases hx),List.pairwise_singleton _ _,fun l=>?_,List.Pairwise.nil,fun l=>⟨fun ⟨x,hx,_⟩=>(by cases hx),fun h=>absurd h.2 (Nat.not_lt_zero _)⟩,by show 1≤40000;omega,by show 0≤5000;omega⟩
  ·obtain rfl:=List.mem_singleton.1 hx
   show NumAt w3 (List.replicate T.n 0).length _ b1 0 (natV (fn (List.replicate T.n 0)))
   rw [List.length_replicate]
   have h1:=(HI2.out.ext hx3).num (by omega)
   exact ⟨h1.hn,h1.pa,h1.pb,fun p hp=>by rw [h1.c p hp];show some (Value.int .i64 0)=some (Value.int .i64 ((fn (List.replicate T.n 0) p:Nat):Int));rw [hf0];rfl⟩
  ·obtain rfl:=List.mem_singleton.1 hx
   exact Nat.le_refl _
  ·constructor
   ·rintro ⟨x,hx,rfl⟩
    obtain rfl:=List.mem_singleton.1 hx
    exact ⟨hc0,(totS_congr fun p _=>hf0 p).trans hz⟩
   ·rintro ⟨h1,h2⟩
    refine ⟨_,List.mem_singleton.2 rfl,fn_ext (by rw [h1.1,List.length_replicate]) fun p hp=>?_⟩
    have hp':p<T.n:=by simpa using hp
    have h3:=tot_same (f:=fun _=>0) (g:=fn l) (n:=T.n) (fun _ _=>Nat.zero_le _) (by rw [hz,h2]) p hp'
    show fn (List.replicate T.n 0) p=fn l p
    rw [hf0];exact h3)
 have HB1:=Lib.hid hb1
 clear hf0 hz hc0 k3 hs3 hx3 hb2 hb1 hx13 hx12
 go_wp2_with fail
 go_loopg [6,7] (tot T.en T.n+2) (fun gg v6 v7 wr=>∃ (k B:Nat) (RL RO:List Row),gg=tot T.en T.n+2 - k∧LsJ T.toTr D.l w1 k B v6 v7 RL RO wr)
 case atStart=>exact ⟨0,b1,_,[],rfl,HST.out⟩
 case round=>
  obtain ⟨k,B,RL,RO,rfl,hI⟩:=hrel
  obtain ⟨a4,c4,rfl⟩:=hI.q4.1.slice
  obtain ⟨a5,c5,rfl⟩:=hI.q5.1.slice
  have hx1r:=hI.hx
  have hxr:=hx1.trans hx1r
  obtain ⟨ln,hln⟩:∃ z,z=RL.length:=⟨_,rfl⟩
  obtain ⟨lo,hlo⟩:∃ z,z=RO.length:=⟨_,rfl⟩
  have hl4:=hI.n4
  have hl5:=hI.n5
  rw [←hln] at hI hl4 ⊢
  rw [←hlo] at hI hl5 ⊢
  have HLN:=Lib.hid hln
  have HLO:=Lib.hid hlo
  have HI:=Lib.hid hI
  clear hI hln hlo
  by_cases h0:0<ln
  ·have d0:decide ((0:Int)<(ln:Int))=true:=decide_eq_true (by omega)
   have d0':decide (0<ln)=true:=decide_eq_true h0
   have HKL:=Lib.hid (show k≤tot T.en T.n from by
    have h1:RL[0]'(by rw [←HLN.out];exact h0)∈RL:=List.getElem_mem _
    have h2:=(HI.out.m4 _).1 ⟨_,h1,rfl⟩
    rw [←h2.2]
    exact totS_le fun p hp=>h2.1.cutL.2.le p hp)
   have HPOS:=Lib.hid (show ∀ x∈RO++RL,0<x.l.length∧PCutL T.toTr D.l x.l from fun x hx=>by
    have h1:PCutL T.toTr D.l x.l:=(List.mem_append.1 hx).elim (fun h=>((HI.out.m5 _).1 ⟨x,h,rfl⟩).1) (fun h=>((HI.out.m4 _).1 ⟨x,h,rfl⟩).1)
    exact ⟨by rw [h1.1];omega,h1⟩)
   have HAP:=Lib.hid (show ∀ x∈RO++RL,(Value.slice a5 lo c5).ownBlock≠some x.g from fun x hx=>by
    rcases List.mem_append.1 hx with h | h
    ·exact HI.out.a5 x h
    ·intro e
     have h1:=HI.out.o5 _ e
     have h2:=HI.out.g4 x h
     omega)
   go_upto_region 5 with (at_builtin;refine wpList_append_que _ rfl _ _ 47 47 rfl (base:=w1.heap.size) (e:=39) (size:=1) j0 (.slice none 0 0) 24 Tryz.underlying47 hj0 hy0 hy1 hy2 rfl rfl (v:=.slice a5 lo c5) (n:=lo) (xs:=RO.map Row.val) (by have h1:=HI.out.q5.1;rw [←HLO.out] at h1;exact h1) (by have:=hx1r.le;omega) (.slice a4 ln c4) ln (RL.map Row.val) rfl (by have h1:=HI.out.q4.src;rw [←HLN.out] at h1;exact h1) (by unfold maxLen;omega) (by omega) ?_;rintro v6 w4 hq6 hg6 ho6)
   have hRn:=RowsQ.app (w:=wr) (v:=.slice a5 lo c5) (R:=RO) (S:=RL) HI.out.q5 (fun x hx=>HI.out.q4.2 x hx) (fun x hx=>(HPOS.out x hx).1) HAP.out (by rw [←HLO.out,←HLN.out];exact hq6) hg6
   have hAp:=RowsQ.app_apart (w:=wr) (v:=.slice a5 lo c5) (v':=v6) (R:=RO++RL) (fun x hx=>(List.mem_append.1 hx).elim (HI.out.q5.2 x) (HI.out.q4.2 x)) (fun x hx=>(HPOS.out x hx).1) HAP.out ho6
   have hlt6:=Que.own_lt hq6 (by omega)
   have hx14:Ext w1 w4:=hx1r.below.grown hg6 hx1r.le (fun g e=>HI.out.q5.1.block g e)
   have HQ4:=Lib.hid (show RowsQ w4 B (.slice a4 ln c4) RL from by
    refine ⟨HI.out.q4.1.same' hg6.size fun g e=>hg6.block g ?_ ?_,fun x hx=>NumAt.blk (HI.out.q4.2 x hx) (hg6.block x.g (NumAt.pb (HI.out.q4.2 x hx) (HPOS.out x (List.mem_append_right _ hx)).1) (fun e=>HAP.out x (List.mem_append_right _ hx) e.symm)) hg6.size⟩
    ·exact Que.own_lt HI.out.q4.1 (by rw [←HLN.out];exact h0) g e
    ·intro e2
     have h1:=HI.out.o5 g e2.symm
     have h2:=HI.out.q4.1.block g e
     omega)
   obtain ⟨a6,c6,rfl⟩:=hq6.slice
   have HR4:=Lib.hid (And.intro hRn (And.intro hAp hlt6))
   have HS6:=Lib.hid (show (RO++RL).Pairwise (Row.bef T.n) from List.pairwise_append.2 ⟨HI.out.s5,HI.out.s4,fun x hx y hy=>.inl (by
    have h1:=((HI.out.m5 _).1 ⟨x,hx,rfl⟩).2
    have h2:=((HI.out.m4 _).1 ⟨y,hy,rfl⟩).2
    show tot (fn x.l) T.n<tot (fn y.l) T.n
    omega)⟩)
   have HM6:=Lib.hid (show ∀ l,(∃ x∈RO++RL,x.l=l)↔(PCutL T.toTr D.l l∧tot (fn l) T.n<k+1) from fun l=>by
    constructor
    ·rintro ⟨x,hx,rfl⟩
     rcases List.mem_append.1 hx with h | h
     ·have h1:=(HI.out.m5 _).1 ⟨x,h,rfl⟩;exact ⟨h1.1,by omega⟩
     ·have h1:=(HI.out.m4 _).1 ⟨x,h,rfl⟩;exact ⟨h1.1,by omega⟩
    ·rintro ⟨h1,h2⟩
     by_cases e:tot (fn l) T.n=k
     ·obtain ⟨x,hx,hl⟩:=(HI.out.m4 l).2 ⟨h1,e⟩;exact ⟨x,List.mem_append_right _ hx,hl⟩
     ·obtain ⟨x,hx,hl⟩:=(HI.out.m5 l).2 ⟨h1,by omega⟩;exact ⟨x,List.mem_append_left _ hx,hl⟩)
   have HLB:=Lib.hid (show B≤wr.heap.size∧wr.heap.size≤w4.heap.size from ⟨HI.out.hB.2,hg6.size⟩)
   have hxw4:=hx1.trans hx14
   clear hRn hAp hlt6 hq6 hg6 ho6
   by_cases hbig:5000<lo+ln
   ·have d1:decide ((5000:Int)<((lo+ln:Nat):Int))=true:=decide_eq_true (by omega)
    have d1':decide ((5000:Int)<(lo:Int)+(ln:Int))=true:=decide_eq_true (by omega)
    have d1'':decide (5000<lo+ln)=true:=decide_eq_true hbig
    go_wp2_with fail
    go_ret2
    exact ⟨hxw4,.inr ⟨rfl,(RO++RL).map Row.l,bef_map.2 HS6.out,fun l hl=>by obtain ⟨x,hx,rfl⟩:=List.mem_map.1 hl;exact (HPOS.out x hx).2,by rw [List.length_map,List.length_append,←HLO.out,←HLN.out];exact hbig⟩⟩
   have d1:decide ((5000:Int)<((lo+ln:Nat):Int))=false:=decide_eq_false (by omega)
   have d1':decide ((5000:Int)<(lo:Int)+(ln:Int))=false:=decide_eq_false (by omega)
   have d1'':decide (5000<lo+ln)=false:=decide_eq_false hbig
   have HNL:=Lib.hid (show NlJ T.toTr D.l w4 (.slice none 0 0) [] (fun l=>∃ a∈RL.take 0,l∈T.toTr.pnext D.l a.l) (8*0) w4 from ⟨RowsQ.nil _ _,Ext.refl _,fun x hx=>(by cases hx),List.Pairwise.nil,fun l=>⟨fun ⟨x,hx,_⟩=>(by cases hx),fun ⟨x,hx,_⟩=>(by simp at hx)⟩,Nat.le_refl _,fun x hx=>(by cases hx)⟩)
   clear hx1r hxr
   go_wp2_with fail
   go_loopg [8,9] ln (fun gg v8 v9 wr=>∃ (i:Nat) (RM:List Row),i≤ln∧gg=ln - i∧v9=.int .i64 i∧NlJ T.toTr D.l w4 v8 RM (fun l=>∃ a∈RL.take i,l∈T.toTr.pnext D.l a.l) (8*i) wr)
   case atStart=>exact ⟨0,[],by omega,rfl,rfl,HNL.out⟩
   case round=>
    obtain ⟨i,RM,hi,rfl,rfl,hN⟩:=hrel
    have hx4i:=hN.hx
    have hx1i:=hx14.trans hx4i
    have hxwi:=hx1.trans hx1i
    obtain ⟨am,cm,rfl⟩:=hN.q.1.slice
    obtain ⟨lm,hlm⟩:∃ z,z=RM.length:=⟨_,rfl⟩
    have hlm4:lm≤40000:=by have:=hN.len;omega
    rw [←hlm] at hN ⊢
    have HLM:=Lib.hid hlm
    have HN:=Lib.hid hN
    clear hN HNL hlm
    by_cases hli:i<ln
    ·have hli':(i:Int)<(ln:Int):=by omega
     have hiR:i<RL.length:=by rw [←HLN.out];exact hli
     obtain ⟨a4',g4,o4,c4',hv4,_,hp4,hget⟩:=HQ4.out.get
     rw [←HLN.out] at hv4
     simp only [Value.slice.injEq] at hv4
     obtain ⟨rfl,_,rfl⟩:=hv4
     obtain ⟨rfl,_,hgl⟩:=hp4 (by omega)
     have hcell:=hget i hiR
     have pb4:∀ w',Ext w4 w'→g4<w'.heap.size:=fun w' x=>Nat.lt_of_lt_of_le hgl x.le
     have hci:=(HPOS.out _ (List.mem_append_right _ (List.getElem_mem hiR))).2
     have hai:=(HQ4.out.2 _ (List.getElem_mem hiR))
     unfold Row.At at hai
     rw [hci.1] at hai
     have hli9:=hci.1
     have hnx:=HNX.out wr.drew hxwi.drew RL[i].a RL[i].g RL[i].o RL[i].c (fn RL[i].l) (hai.ext hx4i.drew) (fun p hp=>hci.2.cut.le p hp)
     have HAI:=Lib.hid hai
     have HCI:=Lib.hid hci
     clear hai hci
     obtain ⟨ra,hra⟩:∃ z,z=RL[i].a:=⟨_,rfl⟩
     obtain ⟨rc,hrc⟩:∃ z,z=RL[i].c:=⟨_,rfl⟩
     obtain ⟨gi,hgi⟩:∃ z,z=RL[i].g:=⟨_,rfl⟩
     obtain ⟨oi,hoi⟩:∃ z,z=RL[i].o:=⟨_,rfl⟩
     rw [hli9] at hcell
     rw [←hra,←hrc] at hnx hcell
     rw [←hra,←hgi,←hoi] at HAI
     obtain ⟨ci,hci0⟩:∃ z,z=fn RL[i].l:=⟨_,rfl⟩
     rw [←hci0] at hnx HAI
     obtain ⟨ps,hps⟩:∃ z,z=T.toTr.pnL D.l ci T.n:=⟨_,rfl⟩
     rw [←hps] at hnx
     have HPS:=Lib.hid (And.intro hci0 hps)
     clear hget hp4 hgl hra hrc hli9 hgi hoi hci0 hps
     go_upto_region 11 with fail
     refine wp_region_held_drew (S:=fun w'=>Ext wr w') (by kernel_rfl) (Ext.refl _).drew (fun hHeld=>?_)
     refine hQ 0 (v:=?_) rfl (y:=.inl ⟨by rfl,?_⟩) (h:=?_)
     rotate_left
     ·(intro w' hSw;(try dsimp only at hSw);have hS1:=hx1i.trans hSw;have hS4:=hx4i.trans hSw;have hSS:=Ext.refl w';go_simp;try with_reducible rfl)
     try simp only [Act.put,zA,zB,zC]
     refine hQ 1 (v:=?_) rfl (y:=.inl ⟨by rfl,?_⟩) (h:=?_)
     rotate_left
     ·(intro w' hSw;(try dsimp only at hSw);have hS1:=hx1i.trans hSw;have hS4:=hx4i.trans hSw;have hSS:=Ext.refl w';go_simp;try with_reducible rfl)
     try simp only [Act.put,zA,zB,zC]
     refine hQ 2 (v:=?_) rfl (y:=.inl ⟨by rfl,?_⟩) (h:=?_)
     rotate_left
     ·(intro w' hSw;(try dsimp only at hSw);have hS1:=hx1i.trans hSw;have hS4:=hx4i.trans hSw;have hSS:=Ext.refl w';go_simp;try with_reducible rfl)
     try simp only [Act.put,zA,zB,zC]
     refine hQ 3 (v:=?_) rfl (y:=.inl ⟨by rfl,?_⟩) (h:=?_)
     rotate_left
     ·(intro w' hSw;(try dsimp only at hSw);have hS1:=hx1i.trans hSw;have hS4:=hx4i.trans hSw;have hSS:=Ext.refl w';go_simp;try with_reducible rfl)
     try simp only [Act.put,zA,zB,zC]
     refine hQ 4 (v:=?_) rfl (y:=.inl ⟨by rfl,?_⟩) (h:=?_)
     rotate_left
     ·(intro w' hSw;(try dsimp only at hSw);have hS1:=hx1i.trans hSw;have hS4:=hx4i.trans hSw;have hSS:=Ext.refl w';go_simp;try with_reducible rfl)
     try simp only [Act.put,zA,zB,zC]
     refine hQ 5 (v:=?_) rfl (y:=.inl ⟨by rfl,?_⟩) (h:=?_)
     rotate_left
     ·(intro w' hSw;(try dsimp only at hSw);have hS1:=hx1i.trans hSw;have hS4:=hx4i.trans hSw;have hSS:=Ext.refl w';go_simp;try with_reducible rfl)
     try simp only [Act.put,zA,zB,zC]
     refine wpAnyH_ready (rs:=[6]) (by kernel_rfl) (by simp) ?_
     refine AllReadyH.cons rfl (fun K hK=>?_) AllReadyH.nil
     go_simp
     go_at_call 23
     refine hnx.mono ?_
     rintro e w6 ⟨hx6,v8,rfl,hq8⟩
     obtain ⟨na,ng,no,nc,rfl,_,hnp,hncell⟩:=Que.cells1 hq8
     have hxr6:Ext wr w6:=(Ext.refl wr).drew.trans hx6
     refine hK.out _ _ ?_ (fun hHeld2=>?_)
     ·exact hxr6
     clear hK K
     try simp only [Act.put,zA,zB,zC]
     refine wpAnyH_ready (rs:=[7]) (by kernel_rfl) (by simp) ?_
     refine AllReadyH.cons rfl (fun K hK=>?_) AllReadyH.nil
     go_simp
     refine hK.out _ _ ?_ (fun hHeld3=>?_)
     ·exact hxr6
     clear hK K
     try simp only [Act.put,zA,zB,zC]
     refine wpAnyH_done (by kernel_rfl) ?_ _
     have HX4I:=Lib.hid (show w4.heap.size≤wr.drew.heap.size from hx4i.drew.le)
     obtain ⟨n8,hn8'⟩:∃ z,z=ps.length:=⟨_,rfl⟩
     rw [←hn8'] at hnp hncell ⊢
     have HN8:=Lib.hid hn8'
     have hn88:n8≤8:=by
      have h1:=T.toTr.pnL_len D.l ci T.n
      rw [←HPS.out.2] at h1
      omega
     have HNP:=Lib.hid hnp
     have HNC:=Lib.hid hncell
     have hx46:=hx4i.trans hxr6
     have hx16:=hx1i.trans hxr6
     have hxw6:=hxwi.trans hxr6
     have HST2:=Lib.hid (show NlJ T.toTr D.l w4 (.slice am lm cm) RM (fun l=>(∃ a∈RL.take i,l∈T.toTr.pnext D.l a.l)∨l∈(T.toTr.pnext D.l RL[i].l).take 0) (8*i+0) w6 from (HN.out.ext hxr6).like (fun l=>⟨.inl,fun h=>h.elim id fun h=>by simp at h⟩) (Nat.le_refl _))
     have h66:Ext w6 w6:=Ext.refl _
     clear hHeld hHeld2 hHeld3 hnx hx6 hq8 hnp hncell hn8'
     go_wp2_with fail
     go_loopg [8,11] n8 (fun gg v8 v11 wr=>∃ (j:Nat) (RM:List Row),j≤n8∧gg=n8 - j∧v11=.int .i64 j∧NlJ T.toTr D.l w4 v8 RM (fun l=>(∃ a∈RL.take i,l∈T.toTr.pnext D.l a.l)∨l∈(T.toTr.pnext D.l RL[i].l).take j) (8*i+j) wr∧Ext w6 wr)
     case atStart=>exact ⟨0,RM,by omega,rfl,rfl,HST2.out,h66⟩
     case round=>
      obtain ⟨j,RN,hj,rfl,rfl,hN,hx6j⟩:=hrel
      obtain ⟨an,cn,rfl⟩:=hN.q.1.slice
      have hx4j:=hN.hx
      have hxwj:=hxw6.trans hx6j
      obtain ⟨lk,hlk⟩:∃ z,z=RN.length:=⟨_,rfl⟩
      have hlk4:lk≤100000:=by have:=hN.len;omega
      rw [←hlk] at hN ⊢
      have HLK:=Lib.hid hlk
      have HN2:=Lib.hid hN
      by_cases hlj:j<n8
      ·have hlj':(j:Int)<(n8:Int):=by omega
       have hjP:j<ps.length:=by rw [←HN8.out];exact hlj
       obtain ⟨p,hp⟩:∃ z,z=ps[j]:=⟨_,rfl⟩
       have hpj:ps[j]?=some p:=by rw [hp];exact List.getElem?_eq_getElem hjP
       have hpm:p∈T.toTr.pnL D.l ci T.n:=by rw [←HPS.out.2,hp];exact List.getElem_mem hjP
       obtain ⟨hpn,hpl,hpc⟩:=Tr.mem_pnL.1 hpm
       obtain ⟨rfl,_,hgl8⟩:=HNP.out (by omega)
       have hcell8:∀ w',Ext w6 w'→w'.cell? ⟨ng,no+j,none⟩=some (.int .i64 (p:Int)):=fun w' x=>x.cell (by rw [HNC.out j hlj];exact natInts_get hpj)
       have pb8:∀ w',Ext w6 w'→ng<w'.heap.size:=fun w' x=>Nat.lt_of_lt_of_le hgl8 x.le
       have hj8:(T.toTr.pnext D.l RL[i].l)[j]?=some (rowOf T.n (upC ci p)):=by
        show ((T.toTr.pnL D.l (fn RL[i].l) T.n).map fun p=>rowOf T.n (upC (fn RL[i].l) p))[j]?=_
        rw [←HPS.out.1,←HPS.out.2,List.getElem?_map,hpj];rfl
       have hcj:PCutL T.toTr D.l (rowOf T.n (upC ci p)):=(PCutL.next HL.out (List.mem_of_getElem? hj8)).1
       have HCJ:=Lib.hid (And.intro hcj hj8)
       have hstep:=rstep_any wr.drew ra gi oi T.n rc ci (HAI.out.ext hx4j.drew) p hpn (by omega) (by have:=HV.out.en64 hpn;show ci p≤100000;have h9:ci p<T.en p:=hpl;omega)
       have HPN:=Lib.hid (And.intro hpn (And.intro hp hpm))
       clear hgl8 hj8 hcj hN hlk hpj hpm hpc hp
       go_upto_region 14 with fail
       refine wp_region_held_drew (S:=fun w'=>Ext wr w') (by kernel_rfl) (Ext.refl _).drew (fun hHeld=>?_)
       refine hQ 0 (v:=?_) rfl (y:=.inl ⟨by rfl,?_⟩) (h:=?_)
       rotate_left
       ·(intro w' hSw;(try dsimp only at hSw);have hS6:=hx6j.trans hSw;have hS4:=hx4j.trans hSw;have hSS:=Ext.refl w';go_simp;try with_reducible rfl)
       try simp only [Act.put,zA,zB,zC]
       refine hQ 1 (v:=?_) rfl (y:=.inl ⟨by rfl,?_⟩) (h:=?_)
       rotate_left
       ·(intro w' hSw;(try dsimp only at hSw);have hS6:=hx6j.trans hSw;have hS4:=hx4j.trans hSw;have hSS:=Ext.refl w';go_simp;try with_reducible rfl)
       try simp only [Act.put,zA,zB,zC]
       refine hQ 2 (v:=?_) rfl (y:=.inl ⟨by rfl,?_⟩) (h:=?_)
       rotate_left
       ·(intro w' hSw;(try dsimp only at hSw);have hS6:=hx6j.trans hSw;have hS4:=hx4j.trans hSw;have hSS:=Ext.refl w';go_simp;try with_reducible rfl)
       try simp only [Act.put,zA,zB,zC]
       refine hQ 3 (v:=?_) rfl (y:=.inl ⟨by rfl,?_⟩) (h:=?_)
       rotate_left
       ·(intro w' hSw;(try dsimp only at hSw);have hS6:=hx6j.trans hSw;have hS4:=hx4j.trans hSw;have hSS:=Ext.refl w';go_simp;try with_reducible rfl)
       try simp only [Act.put,zA,zB,zC]
       refine hQ 4 (v:=?_) rfl (y:=.inl ⟨by rfl,?_⟩) (h:=?_)
       rotate_left
       ·(intro w' hSw;(try dsimp only at hSw);have hS6:=hx6j.trans hSw;have hS4:=hx4j.trans hSw;have hSS:=Ext.refl w';go_simp;try with_reducible rfl)
       try simp only [Act.put,zA,zB,zC]
       refine hQ 5 (v:=?_) rfl (y:=.inl ⟨by rfl,?_⟩) (h:=?_)
       rotate_left
       ·(intro w' hSw;(try dsimp only at hSw);have hS6:=hx6j.trans hSw;have hS4:=hx4j.trans hSw;have hSS:=Ext.refl w';go_simp;try with_reducible rfl)
       try simp only [Act.put,zA,zB,zC]
       refine hQ 6 (v:=?_) rfl (y:=.inl ⟨by rfl,?_⟩) (h:=?_)
       rotate_left
       ·(intro w' hSw;(try dsimp only at hSw);have hS6:=hx6j.trans hSw;have hS4:=hx4j.trans hSw;have hSS:=Ext.refl w';go_simp;try with_reducible rfl)
       try simp only [Act.put,zA,zB,zC]
       refine hQ 7 (v:=?_) rfl (y:=.inl ⟨by rfl,?_⟩) (h:=?_)
       rotate_left
       ·(intro w' hSw;(try dsimp only at hSw);have hS6:=hx6j.trans hSw;have hS4:=hx4j.trans hSw;have hSS:=Ext.refl w';go_simp;try with_reducible rfl)
       try simp only [Act.put,zA,zB,zC]
       refine hQ 8 (v:=?_) rfl (y:=.inl ⟨by rfl,?_⟩) (h:=?_)
       rotate_left
       ·(intro w' hSw;(try dsimp only at hSw);have hS6:=hx6j.trans hSw;have hS4:=hx4j.trans hSw;have hSS:=Ext.refl w';go_simp;try with_reducible rfl)
       try simp only [Act.put,zA,zB,zC]
       refine wpAnyH_ready (rs:=[9]) (by kernel_rfl) (by simp) ?_
       refine AllReadyH.cons rfl (fun K hK=>?_) AllReadyH.nil
       go_simp
       go_at_call 40
       refine hstep.mono ?_
       rintro e w7 ⟨hx7,gs,os,cs,rfl,hns,hgs⟩
       have hxr7:Ext wr w7:=(Ext.refl wr).drew.trans hx7
       refine hK.out _ _ hxr7 (fun hHeld2=>?_)
       clear hK K
       try simp only [Act.put,zA,zB,zC]
       have hins:=rins45_any w7 T.n w4.heap.size (.slice an lk cn) RN (HN2.out.q.ext hxr7) (Nat.le_trans hx4j.le hxr7.le) (fun x hx=>(HN2.out.ok x hx).cutL.ok HV.out) (by rw [←HLK.out];exact hlk4) ⟨rowOf T.n (upC ci p),some ⟨gs,os,none⟩,gs,os,cs⟩ (row_step hns) (HCJ.out.1.cutL.ok HV.out)
       simp only [Row.val,rowOf_len] at hins
       refine wpAnyH_ready (rs:=[10]) (by kernel_rfl) (by simp) ?_
       refine AllReadyH.cons rfl (fun K hK=>?_) AllReadyH.nil
       go_simp
       go_at_call 75
       refine hins.mono ?_
       rintro e w8 ⟨hx8,v8,R7,rfl,hq7,hi7,_⟩
       obtain ⟨a7,c7,rfl⟩:=hq7.1.slice
       have hxr8:Ext wr w8:=hxr7.trans hx8
       refine hK.out _ _ hxr8 (fun hHeld3=>?_)
       clear hK K
       try simp only [Act.put,zA,zB,zC]
       refine wpAnyH_ready (rs:=[11]) (by kernel_rfl) (by simp) ?_
       refine AllReadyH.cons rfl (fun K hK=>?_) AllReadyH.nil
       go_simp
       refine hK.out _ _ hxr8 (fun hHeld4=>?_)
       clear hK K
       try simp only [Act.put,zA,zB,zC]
       refine wpAnyH_done (by kernel_rfl) ?_ _
       have hx67:=hx6j.trans hxr8
       have HNX2:=Lib.hid ((HN2.out.ins hi7 hq7 hxr8 HCJ.out.1 (by have h1:=hx4j.le;have h2:wr.drew.heap.size=wr.heap.size:=rfl;show w4.heap.size≤gs;omega)).like (P':=fun l=>(∃ a∈RL.take i,l∈T.toTr.pnext D.l a.l)∨l∈(T.toTr.pnext D.l RL[i].l).take (j+1)) (fun l=>by
        rw [List.take_add_one,HCJ.out.2]
        simp only [Option.toList_some,List.mem_append,List.mem_singleton]
        exact or_assoc) (show 8*i+j+1≤8*i+(j+1) from Nat.le_refl _))
       clear hHeld hHeld2 hHeld3 hHeld4 hins hq7 hi7 hx7 hx8 hstep hns hgs hxr7
       go_wp2_with fail
       go_roundg (n8 - (j+1))
       case rel=>exact ⟨j+1,R7,by omega,rfl,by go_num,HNX2.out,hx67⟩
       case measure=>omega
      ·obtain rfl:j=n8:=by omega
       have HNI:=Lib.hid (show NlJ T.toTr D.l w4 (.slice an lk cn) RN (fun l=>∃ a∈RL.take (i+1),l∈T.toTr.pnext D.l a.l) (8*(i+1)) wr from HN2.out.like (fun l=>by
        have e9:(T.toTr.pnext D.l RL[i].l).take j=T.toTr.pnext D.l RL[i].l:=List.take_of_length_le (by unfold Tr.pnext;rw [List.length_map,←HPS.out.1,←HPS.out.2,←HN8.out];exact Nat.le_refl _)
        rw [e9,List.take_add_one,List.getElem?_eq_getElem hiR]
        constructor
        ·rintro (⟨a,ha,hl⟩ | hl)
         ·exact ⟨a,List.mem_append_left _ ha,hl⟩
         ·exact ⟨RL[i],List.mem_append_right _ (by simp),hl⟩
        ·rintro ⟨a,ha,hl⟩
         rcases List.mem_append.1 ha with h | h
         ·exact .inl ⟨a,h,hl⟩
         ·obtain rfl:a=RL[i]:=by simpa using h
          exact .inr hl) (by omega))
       clear hN hlk
       go_wp2_with fail
       go_roundg (ln - (i+1))
       case rel=>exact ⟨i+1,RN,by omega,rfl,by go_num,HNI.out⟩
       case measure=>omega
    ·obtain rfl:i=ln:=by omega
     have HNS:=Lib.hid (show LsJ T.toTr D.l w1 (k+1) w4.heap.size (.slice am lm cm) (.slice a6 (lo+i) c6) RM (RO++RL) wr from
      ⟨HN.out.q,HR4.out.1.ext hx4i,hx1i,⟨hx14.le,hx4i.le⟩,HN.out.g,HR4.out.2.2,HR4.out.2.1,HN.out.s,fun l=>by
       rw [HN.out.mem l]
       refine Iff.trans ?_ (plevel_next HV.out HL.out HA.out (P:=fun l=>∃ x∈RL,x.l=l) (fun l=>HI.out.m4 l) l)
       rw [List.take_of_length_le (by rw [HLN.out];exact Nat.le_refl _)]
       constructor
       ·rintro ⟨a,ha,hl⟩;exact ⟨a.l,⟨a,ha,rfl⟩,hl⟩
       ·rintro ⟨_,⟨a,ha,rfl⟩,hl⟩;exact ⟨a,ha,hl⟩,HS6.out,HM6.out,by have:=HN.out.len;omega,by rw [List.length_append,←HLO.out,←HLN.out];omega⟩)
     go_wp2_with fail
     go_roundg (tot T.en T.n+2 - (k+1))
     case rel=>exact ⟨k+1,w4.heap.size,RM,RO++RL,rfl,HNS.out⟩
     case measure=>have:=HKL.out;omega
  ·have hl0:ln=0:=by omega
   subst hl0
   have HF:=Lib.hid (show IsPCuts T.toTr D.l (RO.map Row.l) from ⟨bef_map.2 HI.out.s5,fun l=>by
    have hn0:∀ l,¬(PCutL T.toTr D.l l∧tot (fn l) T.n=k):=fun l h=>by
     obtain ⟨x,hx,_⟩:=(HI.out.m4 l).2 h
     have h1:RL=[]:=List.eq_nil_of_length_eq_zero HLN.out.symm
     rw [h1] at hx;cases hx
    constructor
    ·intro hl
     obtain ⟨x,hx,rfl⟩:=List.mem_map.1 hl
     exact ((HI.out.m5 _).1 ⟨x,hx,rfl⟩).1
    ·intro hl
     have h2:tot (fn l) T.n<k:=Nat.lt_of_not_le fun hle=>plevel_none HV.out HL.out HA.out hn0 (tot (fn l) T.n - k) l hl (by omega)
     obtain ⟨x,hx,rfl⟩:=(HI.out.m5 l).2 ⟨hl,h2⟩
     exact List.mem_map.2 ⟨x,hx,rfl⟩⟩)
   go_wp2_with fail
   go_ret2
   exact ⟨hxr,.inl ⟨_,RO,rfl,(by have h1:=HI.out.q5.mono hx1.le;exact h1),HF.out,by rw [←HLO.out];exact hl5⟩⟩
end Go.Proofs.YtkhgpockmaghjaaGreat
