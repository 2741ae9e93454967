/- Contracts and laws in plain Lean for RApp: group P62. -/
import Derived.Test.YtmhapcnlpoilpaaGreatDoorP60
import Derived.Test.YtmhapcnlpoilpaaGreatDoorP38
import Derived.Lib.AppendZeros
set_option maxRecDepth 100000
namespace Go.Proofs.YtmhapcnlpoilpaaGreatDoor
open Go.RowKit Go.Shelf
structure LvOk (T:Tr) (w:World) (B:Nat) (o:Option Nat) (k:Nat) (x:Value × List Row):Prop where
 h:RowsH w B x.1 x.2
 a:∀ r∈x.2,r.At w∧o≠some r.g
 o:x.2≠[]→∀ b,x.1.ownBlock=some b→o≠some b
 s:x.2.Pairwise fun a b=>lexP T.n (fn a.l) (fn b.l)
 m:∀ l,(∃ r∈x.2,r.l=l)↔(CutL T l∧tot (fn l) T.n=k)
 g:∀ r∈x.2,B≤r.g
theorem LvOk.ext {T:Tr} {w w':World} {B k:Nat} {o:Option Nat} {x:Value × List Row} (h:LvOk T w B o k x) (e:Ext w w'):LvOk T w' B o k x:=by
 refine ⟨?_,fun r hr=>⟨(h.a r hr).1.ext e,(h.a r hr).2⟩,h.o,h.s,h.m,h.g⟩
 rcases h.h with h1 | ⟨g,off,cap,h1,h2,h3,h4,h5⟩
 ·exact .inl h1
 ·exact .inr ⟨g,off,cap,h1,h2,h3,Nat.lt_of_lt_of_le h4 e.le,fun j hj=>⟨e.cell (h5 j hj).1,(e.frozen (p:=⟨g,off+j,none⟩) h4).trans (h5 j hj).2⟩⟩
theorem LvOk.grown {T:Tr} {w w':World} {B k:Nat} {o o':Option Nat} {x:Value × List Row} (h:LvOk T w B o k x) (hg:w.grownBy w' o) (ho:o'=o∨o'=some w.heap.size) (hn:0<T.n):LvOk T w' B o' k x:=by
 have hlen:∀ r∈x.2,0<r.l.length:=fun r hr=>by rw [((h.m r.l).1 ⟨r,hr,rfl⟩).1.1];exact hn
 have hne:∀ {b},b<w.heap.size→o≠some b→o'≠some b:=fun hb h1 e=>by
  rcases ho with h2 | h2
  ·exact h1 (h2▸e)
  ·rw [h2] at e
   have:w.heap.size=_:=Option.some.inj e
   omega
 refine ⟨?_,fun r hr=>⟨NumAt.blk (h.a r hr).1 (hg.block r.g (NumAt.pb (h.a r hr).1 (hlen r hr)) (fun e=>(h.a r hr).2 e.symm)) hg.size,hne (NumAt.pb (h.a r hr).1 (hlen r hr)) (h.a r hr).2⟩,fun h0 b e=>?_,h.s,h.m,h.g⟩
 ·rcases h.h with h1 | ⟨g,off,cap,h1,h2,h3,h4,h5⟩
  ·exact .inl h1
  ·by_cases h0:x.2=[]
   ·exact .inr ⟨g,off,cap,h1,h2,h3,Nat.lt_of_lt_of_le h4 hg.size,fun j hj=>by rw [h0] at hj;exact absurd hj (Nat.not_lt_zero _)⟩
   ·have hb:=hg.block g h4 (fun e=>h.o h0 g (by rw [h1];rfl) e.symm)
    exact .inr ⟨g,off,cap,h1,h2,h3,Nat.lt_of_lt_of_le h4 hg.size,fun j hj=>⟨(World.cell?_of_block (w:=w) (a:=⟨g,off+j,none⟩) hb).trans (h5 j hj).1,(World.frozen?_of_block (w:=w) (a:=⟨g,off+j,none⟩) hb).trans (h5 j hj).2⟩⟩
 ·rcases h.h with ⟨h1,_⟩ | ⟨g,off,cap,h1,h2,h3,h4,h5⟩
  ·exact absurd h1 h0
  ·rw [h1] at e
   obtain rfl:g=b:=by simpa [Value.ownBlock] using e
   exact hne h4 (h.o h0 g (by rw [h1];rfl))
theorem lvs_bef {T : Tr} {w : World} {B : Nat} {o : Option Nat} : ∀ {LV : List (Value × List Row)} {k0 : Nat}, (∀ k (hk : k < LV.length), LvOk T w B o (k0 + k) LV[k]) →
    ((LV.flatMap Prod.snd).map Row.l).Pairwise (fun a b=>befP T.n (fn a) (fn b))∧∀ l∈(LV.flatMap Prod.snd).map Row.l,CutL T l∧k0≤tot (fn l) T.n
 | [],_,_ => ⟨List.Pairwise.nil,fun l h => by cases h⟩
 | x :: LV,k0,h => by
  have h0:=h 0 (by simp)
  obtain ⟨h1,h2⟩:=lvs_bef (LV:=LV) (k0:=k0+1) fun k hk=>by
   have:=h (k+1) (by simp;omega)
   rw [Nat.add_assoc,Nat.add_comm 1 k];exact this
  have hx:∀ l∈x.2.map Row.l,CutL T l∧tot (fn l) T.n=k0:=fun l hl=>by
   obtain ⟨r,hr,rfl⟩:=List.mem_map.1 hl
   exact (h0.m r.l).1 ⟨r,hr,rfl⟩
  rw [List.flatMap_cons,List.map_append]
  refine ⟨List.pairwise_append.2 ⟨?_,h1,fun a ha b hb=>?_⟩,fun l hl=>?_⟩
  ·refine List.pairwise_map.2 (h0.s.imp_of_mem fun {a b} ha hb hl=>.inr ⟨?_,hl⟩)
   rw [(hx _ (List.mem_map.2 ⟨a,ha,rfl⟩)).2,(hx _ (List.mem_map.2 ⟨b,hb,rfl⟩)).2]
  ·exact .inl (by have:=(hx a ha).2;have:=(h2 b hb).2;omega)
  ·rcases List.mem_append.1 hl with h3 | h3
   ·exact ⟨(hx l h3).1,by rw [(hx l h3).2];exact Nat.le_refl _⟩
   ·exact ⟨(h2 l h3).1,by have:=(h2 l h3).2;omega⟩
structure LvI (T:Tr) (w4:World) (v6 v5:Value) (LV:List (Value × List Row)) (RL:List Row) (B:Nat) (wr:World):Prop where
 q:Que wr w4.heap.size 1 v6 LV.length (LV.map Prod.fst)
 lv:∀ k (hk:k<LV.length),LvOk T wr B v6.ownBlock k LV[k]
 cu:LvOk T wr B v6.ownBlock LV.length (v5,RL)
 x:Ext w4 wr
 b:∀ b,v6.ownBlock=some b→b<wr.heap.size
 t:(LV.flatMap Prod.snd).length≤5000
 n:RL.length≤40000
def KlevPost (T:Tr) (w:World) (e:Ending) (w':World):Prop:=Ext w w'∧((∃ (v:Value) (LV:List (Value × List Row)),e=.returned (.tuple #[v,.int .i64 0])∧Que w' w.heap.size 1 v LV.length (LV.map Prod.fst)∧(∀ k (hk:k<LV.length),LvOk T w' w.heap.size v.ownBlock k LV[k])∧IsCuts T ((LV.flatMap Prod.snd).map Row.l)∧(LV.flatMap Prod.snd).length≤5000)∨
 (e=.returned (.tuple #[.slice none 0 0,.int .i64 16])∧∃ L:List (List Nat),L.Pairwise (fun a b=>befP T.n (fn a) (fn b))∧(∀ l∈L,CutL T l)∧5000<L.length))
theorem infoInts2:(Tryz.prog.info? 28).map (fun i=>(i.zero,i.size,i.bytes))=some (some (.slice none 0 0),1,24):=by kernel_rfl
theorem RowsH.mono {w:World} {B B':Nat} {v:Value} {R:List Row} (h:RowsH w B v R) (hb:B'≤B):RowsH w B' v R:=by
 rcases h with h1 | ⟨g,off,cap,h1,h2,h3,h4⟩
 ·exact .inl h1
 ·exact .inr ⟨g,off,cap,h1,h2,Nat.le_trans hb h3,h4⟩
theorem RowsH.slice {w:World} {B:Nat} {v:Value} {R:List Row} (h:RowsH w B v R):∃ a c,v=.slice a R.length c:=by
 rcases h with ⟨rfl,a,c,rfl⟩ | ⟨g,off,cap,rfl,_⟩
 ·exact ⟨a,c,rfl⟩
 ·exact ⟨_,_,rfl⟩
set_option maxHeartbeats 4000000 in
theorem klev_any (w:World) (T:TM) (hT:T.At w) (hV:T.toTr.Valid):Calls Tryz.prog 169 #[T.val] w (KlevPost T.toTr w):=by
 obtain ⟨i0,hi0,hz0,hz1,hz2⟩:=info_parts infoInt
 obtain ⟨j0,hj0,hy0,hy1,hy2⟩:=info_parts infoInts2
 have hn8:=hV.n8
 have hn1:=hV.n1
 have HT:=Lib.hid hT
 have HV:=Lib.hid hV
 unfold KlevPost
 obtain ⟨ta,hta⟩:∃ z,z=T.a:=⟨_,rfl⟩
 have HTA:=Lib.hid hta
 have hva:=Lib.hid (fun W (x:Ext w W)=>(show Calls Tryz.prog 35 #[T.val] W (fun e w'=>e=.returned (.bool true)∧Ext W w') from (valid_any W T (hT.ext x)).mono fun e w' ⟨b,he,hb,hx⟩=>⟨by rw [he,hb.2 hV],hx⟩))
 have hof:=Lib.hid (fun W (x:Ext w W)=>kof_any W T (hT.ext x) hV)
 simp only [TM.val] at hva hof ⊢
 rw [←hta] at hva hof ⊢
 clear hT hV hta
 go_enter Tryz.func169,Tryz.ntmps169
 go_upto_region 1 with fail
 refine boxed1 (w:=w) (G:=fun x=>Code.wp _ _ _ _ x) ?_
 intro w1 hx1 hs1 ⟨l0,c0,_,_⟩
 have hx11:Ext w1 w1:=Ext.refl _
 clear hs1
 go_upto_region 3 with (go_at_call 35;refine (hva.out w1 hx1).mono ?_;rintro e w2 ⟨rfl,hx2⟩)
 go_upto_region 4 with (go_at_call 203;refine (hof.out w2 (hx1.trans hx2)).mono ?_;rintro e w3 ⟨mv,rfl,hm3,hx3⟩;have HM3:=Lib.hid hm3;obtain ⟨vl,vn,NV,rfl,hmm⟩:=hm3;obtain ⟨al,cl,rfl⟩:=hmm.ql.slice;obtain ⟨an,cn,rfl⟩:=hmm.qn.slice;clear hmm)
 refine boxed1 (w:=w3) (G:=fun x=>Code.wp _ _ _ _ x) ?_
 intro w4 hx4 hs4 ⟨l4,c4,_,_⟩
 have hx44:Ext w4 w4:=Ext.refl _
 have hxw4:Ext w w4:=((hx1.trans hx2).trans hx3).trans hx4
 have HM4:=Lib.hid (HM3.out.ext hx4)
 have hx14:Ext w1 w4:=(hx2.trans hx3).trans hx4
 clear hs4
 go_upto_region 5 with (at_make;refine wpList_make_full _ rfl _ _ 25 rfl w4.heap.size 3 i0 (.int .i64 0) 1 Tryz.underlying25 hi0 hz0 hz1 .i64 .i64 _ _ T.n rfl rfl rfl rfl (by rw [hz2];omega) (by unfold maxLen;omega) (Nat.le_refl _) ?_;intro w5 hown5 hg5)
 have hx45:Ext w4 w5:=(Below.refl _ _).grown hg5 (Nat.le_refl _) (by simp)
 have HI5:=Lib.hid (IntRow.made hown5)
 clear hown5 hg5
 refine boxed1 (w:=w5) (G:=fun x=>Code.wp _ _ _ _ x) ?_
 intro w6 hx6 hs6 ⟨l6,c6,f6,k6⟩
 have hx46:=hx45.trans hx6
 have hf0:∀ p,fn (List.replicate T.n 0) p=0:=fun p=>by unfold fn;rw [List.getD_eq_getElem?_getD,List.getElem?_replicate];split <;> rfl
 have hz:tot (fun _=>0) T.n=0:=by
  have:∀ n,tot (fun _=>0) n=0:=fun n=>by induction n with | zero=>rfl | succ n ih=>exact ih
  exact this _
 have hc0:CutL T.toTr (List.replicate T.n 0):=⟨List.length_replicate,(Tr.CutOk.zero T.toTr).congr fun p _=>hf0 p⟩
 have HST:=Lib.hid (show LvI T.toTr w4 (.slice none 0 0) (.slice (some ⟨w5.heap.size,0,none⟩) 1 1) [] [⟨List.replicate T.n 0,some ⟨w4.heap.size,0,none⟩,w4.heap.size,0,T.n⟩] w.heap.size w6 from by
  refine ⟨Que.nil _ _ _,fun k hk=>absurd hk (Nat.not_lt_zero _),⟨.inr ⟨w5.heap.size,0,1,rfl,Nat.le_refl _,by have:=hxw4.le;have:=hx45.le;omega,l6 w6 (Ext.refl _),fun j hj=>?_⟩,fun r hr=>?_,fun _ b _ e=>(by cases e),List.pairwise_singleton _ _,fun l=>?_,fun r hr=>by obtain rfl:=List.mem_singleton.1 hr;exact hxw4.le⟩,hx46,fun b e=>(by cases e),Nat.zero_le _,by show 1≤40000;omega⟩
  ·obtain rfl:j=0:=by have:j<1:=hj;omega
   refine ⟨(c6 w6 (Ext.refl _) 0).trans ?_,f6 w6 (Ext.refl _) 0⟩
   show some (Value.slice _ _ _)=some (Value.slice _ (List.replicate T.n 0).length _)
   rw [List.length_replicate];rfl
  ·obtain rfl:=List.mem_singleton.1 hr
   refine ⟨?_,fun e=>(by cases e)⟩
   show NumAt w6 (List.replicate T.n 0).length _ w4.heap.size 0 (natV (fn (List.replicate T.n 0)))
   rw [List.length_replicate]
   have h1:=(HI5.out.ext hx6).num (by omega)
   exact ⟨h1.hn,h1.pa,h1.pb,fun p hp=>by rw [h1.c p hp];show some (Value.int .i64 0)=some (Value.int .i64 ((fn (List.replicate T.n 0) p:Nat):Int));rw [hf0];rfl⟩
  ·constructor
   ·rintro ⟨x,hx,rfl⟩
    obtain rfl:=List.mem_singleton.1 hx
    exact ⟨hc0,(totS_congr fun p _=>hf0 p).trans hz⟩
   ·rintro ⟨h1,h2⟩
    refine ⟨_,List.mem_singleton.2 rfl,fn_ext (by rw [h1.1,List.length_replicate]) fun p hp=>?_⟩
    have hp':p<T.n:=by simpa using hp
    have h3:=tot_same (f:=fun _=>0) (g:=fn l) (n:=T.n) (fun _ _=>Nat.zero_le _) (by rw [hz];exact h2.symm) p hp'
    show fn (List.replicate T.n 0) p=fn l p
    rw [hf0];exact h3)
 clear hf0 hz hc0 k6 l6 c6 f6 hs6 l0 c0 hx11
 go_wp2_with fail
 go_loopg [5,6,7] (tot T.en T.n+2) (fun gg v5 v6 v7 wr=>∃ (LV:List (Value × List Row)) (RL:List Row),gg=tot T.en T.n+2 - LV.length∧v7=.int .i64 ((LV.flatMap Prod.snd).length:Nat)∧LvI T.toTr w4 v6 v5 LV RL w.heap.size wr)
 case atStart=>exact ⟨[],_,rfl,rfl,HST.out⟩
 case round=>
  obtain ⟨LV,RL,rfl,rfl,hI⟩:=hrel
  obtain ⟨a5,c5,hv5⟩:=hI.cu.h.slice
  obtain ⟨a6,c6,hv6⟩:=hI.q.slice
  dsimp only at hv5
  subst hv5 hv6
  have hx4r:=hI.x
  have hxr:=hxw4.trans hx4r
  obtain ⟨ln,hln⟩:∃ z,z=RL.length:=⟨_,rfl⟩
  obtain ⟨lv,hlv⟩:∃ z,z=LV.length:=⟨_,rfl⟩
  obtain ⟨tl,htl⟩:∃ z,z=(LV.flatMap Prod.snd).length:=⟨_,rfl⟩
  have hn40:ln≤40000:=by rw [hln];exact hI.n
  have ht50:tl≤5000:=by rw [htl];exact hI.t
  rw [←hln,←hlv] at hI
  rw [←hln,←hlv,←htl]
  have HLN:=Lib.hid hln
  have HLV:=Lib.hid hlv
  have HTL:=Lib.hid htl
  have HI:=Lib.hid hI
  have hw7:IntKind.i64.wrap ((tl:Int)+(ln:Int))=((tl+ln:Nat):Int):=by rw [IntWalk.i64_in _ (by omega)];omega
  clear hI hln hlv htl
  by_cases h0:0<ln
  ·have h0':(0:Int)<(ln:Int):=by omega
   have HKL:=Lib.hid (show lv≤tot T.en T.n from by
    have h1:RL[0]'(by rw [←HLN.out];exact h0)∈RL:=List.getElem_mem _
    have h2:=(HI.out.cu.m _).1 ⟨_,h1,rfl⟩
    rw [HLV.out,←h2.2]
    exact totS_le fun p hp=>h2.1.2.le p hp)
   have h512:lv≤512:=by
    have h1:RL[0]'(by rw [←HLN.out];exact h0)∈RL:=List.getElem_mem _
    have h2:=(HI.out.cu.m _).1 ⟨_,h1,rfl⟩
    rw [HLV.out,←h2.2]
    exact h2.1.small HV.out (Nat.le_refl _)
   have HLA:=Lib.hid (show ∀ k (hk:k<(LV++[(Value.slice a5 ln c5,RL)]).length),LvOk T.toTr wr w.heap.size (Value.slice a6 lv c6).ownBlock (0+k) (LV++[(Value.slice a5 ln c5,RL)])[k] from fun k hk=>by
    rw [Nat.zero_add]
    by_cases e:k<LV.length
    ·rw [List.getElem_append_left e];exact HI.out.lv k e
    ·obtain rfl:k=LV.length:=by rw [List.length_append] at hk;simp at hk;omega
     have h9:=HI.out.cu
     rw [List.getElem_append_right (Nat.le_refl _)]
     simpa using h9)
   by_cases hbig:5000<tl+ln
   ·have hbig':(5000:Int)<((tl+ln:Nat):Int):=by omega
    have hbig'':(5000:Int)<(tl:Int)+(ln:Int):=by omega
    have HER:=Lib.hid (lvs_bef HLA.out)
    go_wp2_with fail
    go_ret2
    exact ⟨hxr,.inr ⟨rfl,_,HER.out.1,fun l hl=>(HER.out.2 l hl).1,by rw [List.length_map,List.flatMap_append,List.length_append,←HTL.out];simp only [List.flatMap_cons,List.flatMap_nil,List.append_nil];rw [←HLN.out];exact hbig⟩⟩
   ·have hbig':¬(5000:Int)<((tl+ln:Nat):Int):=by omega
    have hbig'':¬(5000:Int)<(tl:Int)+(ln:Int):=by omega
    go_upto_region 8 with (at_builtin;go_loud (refine wpList_append_que _ rfl _ _ 60 60 rfl (base:=w4.heap.size) (e:=28) (size:=1) j0 (.slice none 0 0) 24 Tryz.underlying60 hj0 hy0 hy1 hy2 rfl rfl (v:=.slice a6 lv c6) (n:=lv) (xs:=LV.map Prod.fst) (by have h1:=HI.out.q.ext (Ext.alloc wr (.cells #[.slice a5 ln c5] 28));rw [←HLV.out] at h1;exact h1) (by rw [World.size_alloc];have:=hx4r.le;omega) (.slice (some ⟨wr.heap.size,0,none⟩) 1 1) 1 [.slice a5 ln c5] rfl (by exact Src.ofSlice _ Tryz.underlying60 ⟨wr.heap.size,0,none⟩ 1 1 _ rfl (news_ok wr _ _) (by intro u hu;simp at hu;subst hu;rfl)) (by unfold maxLen;omega) (by omega) ?_;rintro v9 w9 hq9 hg9 ho9))
    have hx49:Ext w4 w9:=(hx4r.alloc' _).below.grown hg9 (by rw [World.size_alloc];have:=hx4r.le;omega) (fun g e=>HI.out.q.block g e)
    have HC9:=Lib.hid ((HI.out.cu.ext (Ext.alloc _ _)).grown hg9 ho9 hn1)
    have HL9:=Lib.hid (fun k (hk:k<LV.length)=>((HI.out.lv k hk).ext (Ext.alloc _ _)).grown hg9 ho9 hn1)
    have HO9:=Lib.hid (Que.own_lt hq9 (by omega))
    have HQ9:=Lib.hid hq9
    have hnx:=knext_any w9 T.toTr HV.out _ _ (HM4.out.ext hx49) w.heap.size (.slice a5 ln c5) RL HC9.out.h (fun x hx=>⟨(HC9.out.a x hx).1,((HC9.out.m x.l).1 ⟨x,hx,rfl⟩).1⟩) (by rw [←HLN.out];omega)
    clear hq9 hg9 ho9
    go_wp2_with (go_at_call 204;refine hnx.mono ?_;rintro e w10 ⟨hx10,v10,R10,rfl,hh10,ha10,hl10,hs10,hm10⟩)
    have HN10:=Lib.hid (show LvI T.toTr w4 v9 v10 (LV++[(Value.slice a5 ln c5,RL)]) R10 w.heap.size w10 from by
     have hll:(LV++[(Value.slice a5 ln c5,RL)]).length=lv+1:=by rw [List.length_append,←HLV.out];rfl
     have hBw:w.heap.size≤w9.heap.size:=by have:=hxw4.le;have:=hx49.le;omega
     refine ⟨by rw [hll,List.map_append];exact HQ9.out.ext hx10,fun k hk=>?_,⟨hh10.mono hBw,fun r hr=>⟨(ha10 r hr).1,fun e=>?_⟩,fun h1 b e e2=>?_,hs10,fun l=>?_,fun r hr=>Nat.le_trans hBw (ha10 r hr).2⟩,hx49.trans hx10,fun b e=>Nat.lt_of_lt_of_le (HO9.out b e) hx10.le,?_,by rw [←HLN.out] at hl10;omega⟩
     ·by_cases e:k<LV.length
      ·rw [List.getElem_append_left e];exact (HL9.out k e).ext hx10
      ·obtain rfl:k=LV.length:=by rw [hll,HLV.out] at hk;omega
       have h9:=HC9.out.ext hx10
       rw [List.getElem_append_right (Nat.le_refl _)]
       simpa using h9
     ·have h1:=HO9.out _ e
      have h2:=(ha10 r hr).2
      omega
     ·rcases hh10 with ⟨h2,_⟩ | ⟨g,off,cap,h2,h3,h4,h5⟩
      ·exact h1 h2
      ·dsimp only at e
       rw [h2] at e
       obtain rfl:g=b:=by simpa [Value.ownBlock] using e
       have:=HO9.out _ e2
       omega
     ·rw [hll]
      refine (hm10 l).trans (Iff.trans ?_ (level_next HV.out (P:=fun l=>∃ x∈RL,x.l=l) (k:=lv) (fun l=>by rw [HLV.out];exact HI.out.cu.m l) l))
      constructor
      ·rintro ⟨a,ha,h3⟩;exact ⟨a.l,⟨a,ha,rfl⟩,h3⟩
      ·rintro ⟨_,⟨a,ha,rfl⟩,h3⟩;exact ⟨a,ha,h3⟩
     ·rw [List.flatMap_append,List.length_append,←HTL.out]
      simp only [List.flatMap_cons,List.flatMap_nil,List.append_nil]
      rw [←HLN.out];omega)
    have HLL:=Lib.hid (show tot T.en T.n+2 - (LV++[(Value.slice a5 ln c5,RL)]).length<tot T.en T.n+2 - lv from by
     rw [List.length_append,←HLV.out];have:=HKL.out;simp only [List.length_cons,List.length_nil];omega)
    have HTT:=Lib.hid (show tl+ln=((LV++[(Value.slice a5 ln c5,RL)]).flatMap Prod.snd).length from by
     rw [List.flatMap_append,List.length_append,←HTL.out]
     simp only [List.flatMap_cons,List.flatMap_nil,List.append_nil]
     rw [←HLN.out])
    clear hnx hh10 ha10 hl10 hs10 hm10
    go_wp2_with fail
    go_roundg (tot T.en T.n+2 - (LV++[(Value.slice a5 ln c5,RL)]).length)
    case rel=>exact ⟨_,R10,rfl,by rw [←HTT.out];go_num,HN10.out⟩
    case measure=>rw [←HLV.out];exact HLL.out
  ·obtain rfl:ln=0:=by omega
   have HF:=Lib.hid (show IsCuts T.toTr ((LV.flatMap Prod.snd).map Row.l) from by
    have h1:=lvs_bef (k0:=0) (fun k hk=>by rw [Nat.zero_add];exact HI.out.lv k hk)
    refine ⟨h1.1,fun l=>⟨fun hl=>(h1.2 l hl).1,fun hl=>?_⟩⟩
    have hn0:∀ l,¬(CutL T.toTr l∧tot (fn l) T.n=LV.length):=fun l h=>by
     obtain ⟨x,hx,_⟩:=(HI.out.cu.m l).2 h
     have h2:RL=[]:=List.eq_nil_of_length_eq_zero HLN.out.symm
     dsimp only at hx
     rw [h2] at hx;cases hx
    have h2:tot (fn l) T.n<LV.length:=Nat.lt_of_not_le fun hle=>level_none HV.out hn0 (tot (fn l) T.n - LV.length) l hl (by omega)
    obtain ⟨x,hx,rfl⟩:=((HI.out.lv _ h2).m l).2 ⟨hl,rfl⟩
    exact List.mem_map.2 ⟨x,List.mem_flatMap.2 ⟨_,List.getElem_mem h2,hx⟩,rfl⟩)
   go_wp2_with fail
   go_ret2
   exact ⟨hxr,.inl ⟨_,LV,rfl,HI.out.q.mono hxw4.le,HI.out.lv,HF.out,HI.out.t⟩⟩
theorem growr_own {w:World} (n cap:Nat) (hc:n≤cap) (hm:cap≤maxLen):(w.drew.alloc (.cells (Builtin.zeroCells #[.slice none 0 0] n++Builtin.zeroCells #[.slice none 0 0] (cap - n)) 25)).ownsRow w.heap.size 25 1 (.slice (some ⟨w.heap.size,0,none⟩) 0 cap) 0 []:=by
 refine ⟨rfl,.inr ⟨w.heap.size,cap,Builtin.zeroCells #[.slice none 0 0] n++Builtin.zeroCells #[.slice none 0 0] (cap - n),rfl,Nat.le_refl _,?_,Nat.zero_le _,hm,?_,by simp⟩⟩
 ·show (w.heap.push _)[w.heap.size]?=_
  simp
 ·rw [Array.size_append,size_zeroCells,size_zeroCells];simp;omega
set_option maxHeartbeats 1000000 in
theorem growr_any (n : Nat) (hn : n ≤ 1000000) (w : World) :
    Calls Tryz.prog 205 #[.slice none 0 0,.int .i64 n] w fun e w'=>∃ v,e=.returned v∧w'.ownsRow w.heap.size 25 1 v 0 []∧Ext w w':=by
 obtain ⟨j0,hj0,hy0,hy1,hy2⟩:=info_parts infoInts1
 have d0:decide ((n:Int)<0)=false:=decide_eq_false (by omega)
 by_cases h0:n=0
 ·subst h0
  go_enter Tryz.func205,Tryz.ntmps205
  go_wp2_with fail
  go_ret
  exact ⟨_,rfl,World.ownsRow_nil _ _ _ _,Ext.refl _⟩
 ·have d1:decide ((0:Int)<(n:Int))=true:=decide_eq_true (by omega)
  have hr:=fun W=>Lib.run_append_nil_zeros (P:=Tryz.prog) W 28 3 28 25 j0 (.slice none 0 0) .i64 .i64 Tryz.underlying28 Tryz.underlying3 hj0 hy0 n (by omega) (by rw [hy1];omega) (by omega) (by rw [hy2];omega)
  go_enter Tryz.func205,Tryz.ntmps205
  go_wp2_with (at_builtin;refine Lib.wpList_append_run _ rfl _ _ 28 3 rfl (.slice none 0 0) (.int .i64 n) rfl rfl _ _ (hr _) ?_)
  go_ret
  exact ⟨_,rfl,growr_own n _ (grownCap_ge _ _ _ _) (grownCap_le_maxLen _ _ _ _ (by unfold maxLen;omega)),(Ext.alloc _ _).drew⟩
theorem RowsH.ext {w w':World} {B:Nat} {v:Value} {R:List Row} (h:RowsH w B v R) (e:Ext w w'):RowsH w' B v R:=by
 rcases h with h1 | ⟨g,off,cap,h1,h2,h3,h4,h5⟩
 ·exact .inl h1
 ·exact .inr ⟨g,off,cap,h1,h2,h3,Nat.lt_of_lt_of_le h4 e.le,fun j hj=>⟨e.cell (h5 j hj).1,(e.frozen (p:=⟨g,off+j,none⟩) h4).trans (h5 j hj).2⟩⟩
theorem RowsH.src {w:World} {B:Nat} {v:Value} {R:List Row} (h:RowsH w B v R):Src Tryz.prog 1 28 v R.length (R.map Row.val) w:=by
 have h1:∀ u∈R.map Row.val,u.oneCell'=true:=fun u hu=>by obtain ⟨r,_,rfl⟩:=List.mem_map.1 hu;rfl
 rcases h with ⟨rfl,a,c,rfl⟩ | ⟨g,off,cap,rfl,_,_,_,h5⟩
 ·cases a with
  | none => exact Src.ofNil w Tryz.underlying28 _
  | some a => exact Src.ofSlice w Tryz.underlying28 a 0 _ [] (by simp) (by intro _ _ h';simp at h') (by intro u hu;cases hu)
 ·refine Src.ofSlice w Tryz.underlying28 ⟨g,off,none⟩ R.length cap _ (by simp) (fun j u hu=>?_) h1
  have hj:j<R.length:=by
   have h2:=(List.getElem?_eq_some_iff.1 hu).1
   simpa using h2
  rw [Addr.add_lit,(h5 j hj).1,←hu,List.getElem?_map,List.getElem?_eq_getElem hj];rfl
theorem flat_take {LV:List (Value × List Row)} {k:Nat} (hk:k<LV.length):(LV.take (k+1)).flatMap Prod.snd=(LV.take k).flatMap Prod.snd++LV[k].2:=by
 rw [List.take_add_one,List.getElem?_eq_getElem hk,List.flatMap_append];simp
theorem flat_take_le (LV:List (Value × List Row)) (k:Nat):((LV.take k).flatMap Prod.snd).length≤(LV.flatMap Prod.snd).length:=by
 conv=>rhs;rw [←List.take_append_drop k LV]
 rw [List.flatMap_append,List.length_append];omega
set_option maxHeartbeats 2000000 in
theorem kcat_any (w : World) (B : Nat) (v : Value) (LV : List (Value × List Row)) (hq : Que w B 1 v LV.length (LV.map Prod.fst)) (hlv : ∀ k (hk : k < LV.length), RowsH w B LV[k].1 LV[k].2 ∧ ∀ r ∈ LV[k].2, r.At w) (ht : (LV.flatMap Prod.snd).length ≤ 5000) :
    Calls Tryz.prog 170 #[v] w fun e w'=>Ext w w'∧∃ v',e=.returned v'∧RowsQ w' w.heap.size v' (LV.flatMap Prod.snd):=by
 obtain ⟨j0,hj0,hy0,hy1,hy2⟩:=info_parts infoInts1
 obtain ⟨va,vc,g,off,hv,hc0,hn⟩:∃ va vc g off,v=.slice va LV.length vc∧(0<LV.length→va=some ⟨g,off,none⟩∧g<w.heap.size∧∀ k (hk:k<LV.length),w.cell? ⟨g,off+k,none⟩=some LV[k].1)∧LV.length≤maxLen:=by
  rcases hq.val with ⟨ao,h1,h2,_⟩ | ⟨g,off,cap,h1,_,h2,h3,h4,h5,_⟩
  ·exact ⟨ao,0,0,0,by rw [h1,h2],fun h=>by omega,by rw [h2];exact Nat.zero_le _⟩
  ·exact ⟨_,cap,g,off,h1,fun _=>⟨rfl,h2,fun k hk=>by rw [h5 k (by omega),List.getElem?_map,List.getElem?_eq_getElem hk];rfl⟩,Nat.le_trans h3 h4⟩
 subst hv
 obtain ⟨n,hn'⟩:∃ z,z=LV.length:=⟨_,rfl⟩
 have HN:=Lib.hid hn'
 have HC:=Lib.hid hc0
 have HL:=Lib.hid hlv
 have HT:=Lib.hid ht
 have hfl:∀ k,((LV.take k).flatMap Prod.snd).length≤5000:=fun k=>Nat.le_trans (flat_take_le _ _) ht
 have HF:=Lib.hid hfl
 rw [←hn'] at hn ⊢
 unfold maxLen at hn
 have hww:Ext w w:=Ext.refl _
 clear hq hc0 hlv ht hfl hn'
 go_enter Tryz.func170,Tryz.ntmps170
 go_wp2_with fail
 go_loopg [3,11] n (fun gg v3 v11 wr=>∃ k:Nat,k≤n∧gg=n - k∧v11=.int .i64 k∧v3=.int .i64 (((LV.take k).flatMap Prod.snd).length:Nat)∧w=wr)
 case atStart=>exact ⟨0,by omega,rfl,rfl,rfl,rfl⟩
 case round=>
  obtain ⟨k,hk,rfl,rfl,rfl,rfl⟩:=hrel
  obtain ⟨tl,htl⟩:∃ z,z=((LV.take k).flatMap Prod.snd).length:=⟨_,rfl⟩
  have htl5:tl≤5000:=by rw [htl];exact HF.out k
  have HTL:=Lib.hid htl
  rw [←htl]
  clear htl
  by_cases hlt:k<n
  ·have hlt':(k:Int)<(n:Int):=by omega
   have hkL:k<LV.length:=by rw [←HN.out];exact hlt
   have HCC:=Lib.hid (HC.out (by omega))
   obtain rfl:=HCC.out.1
   have vb:∀ w',Ext w w'→g<w'.heap.size:=fun w' x=>Nat.lt_of_lt_of_le HCC.out.2.1 x.le
   obtain ⟨ra,rc,hv⟩:=(HL.out k hkL).1.slice
   obtain ⟨rl,hrl⟩:∃ z,z=LV[k].2.length:=⟨_,rfl⟩
   have sk:∀ w',Ext w w'→w'.cell? ⟨g,off+k,none⟩=some (.slice ra rl rc):=fun w' x=>by rw [x.cell (HCC.out.2.2 k hkL),hv,hrl]
   have HK1:=Lib.hid (show tl+rl=((LV.take (k+1)).flatMap Prod.snd).length from by rw [flat_take hkL,List.length_append,←HTL.out,←hrl])
   have h5:tl+rl≤5000:=by rw [HK1.out];exact HF.out _
   clear hv hrl
   go_wp2_with fail
   go_roundg (n - (k+1))
   case rel=>exact ⟨k+1,by omega,rfl,by go_num,by rw [←HK1.out];go_num,rfl⟩
   case measure=>omega
  ·obtain rfl:k=n:=by omega
   have hGr:=growr_any tl (by omega) w
   go_wp2_with (go_at_call 205;refine hGr.mono ?_;rintro e w2 ⟨v2,rfl,hown2,hx2⟩;have HO2:=Lib.hid (Que.own hown2);clear hown2)
   clear hGr
   go_loopg [6,27] k (fun gg v6 v27 wi=>∃ i:Nat,i≤k∧gg=k - i∧v27=.int .i64 i∧Ext w wi∧RowsQ wi w.heap.size v6 ((LV.take i).flatMap Prod.snd))
   case atStart=>exact ⟨0,by omega,rfl,rfl,hx2,⟨HO2.out,fun r hr=>(by cases hr)⟩⟩
   case round=>
    obtain ⟨i,hi,rfl,rfl,hxi,hq⟩:=hrel
    have hii:Ext wr wr:=Ext.refl _
    obtain ⟨ti,hti⟩:∃ z,z=((LV.take i).flatMap Prod.snd).length:=⟨_,rfl⟩
    have hti5:ti≤5000:=by rw [hti];exact HF.out i
    obtain ⟨a6,c6,hv6⟩:=hq.1.slice
    subst hv6
    rw [←hti] at hq ⊢
    have HTI:=Lib.hid hti
    have HQ:=Lib.hid hq
    clear hq hti
    by_cases hlt:i<k
    ·have hlt':(i:Int)<(k:Int):=by omega
     have hkL:i<LV.length:=by rw [←HN.out];exact hlt
     have HCC:=Lib.hid (HC.out (by omega))
     obtain rfl:=HCC.out.1
     have vb:∀ w',Ext w w'→g<w'.heap.size:=fun w' x=>Nat.lt_of_lt_of_le HCC.out.2.1 x.le
     obtain ⟨ra,rc,hv⟩:=(HL.out i hkL).1.slice
     obtain ⟨rl,hrl⟩:∃ z,z=LV[i].2.length:=⟨_,rfl⟩
     have sk:∀ w',Ext w w'→w'.cell? ⟨g,off+i,none⟩=some (.slice ra rl rc):=fun w' x=>by rw [x.cell (HCC.out.2.2 i hkL),hv,hrl]
     have HSRC:=Lib.hid (show Src Tryz.prog 1 28 (.slice ra rl rc) rl (LV[i].2.map Row.val) wr from by
      have h1:=((HL.out i hkL).1.ext hxi).src
      rw [hv,←hrl] at h1;exact h1)
     have HK1:=Lib.hid (show ti+rl=((LV.take (i+1)).flatMap Prod.snd).length from by rw [flat_take hkL,List.length_append,←HTI.out,←hrl])
     have h5:ti+rl≤5000:=by rw [HK1.out];exact HF.out _
     clear hv hrl
     go_wp2_with (at_builtin;go_loud (refine wpList_append_que _ rfl _ _ 28 28 rfl (base:=w.heap.size) (e:=25) (size:=1) j0 (.slice none 0 0) 24 Tryz.underlying28 hj0 hy0 hy1 hy2 rfl rfl (v:=.slice a6 ti c6) (n:=ti) (xs:=((LV.take i).flatMap Prod.snd).map Row.val) (by have h1:=HQ.out.1;rw [←HTI.out] at h1;exact h1) hxi.le (.slice ra rl rc) rl (LV[i].2.map Row.val) rfl HSRC.out (by unfold maxLen;omega) (by omega) ?_;rintro v7 w7 hq7 hg7 -;have H7:=Lib.hid (And.intro hq7 hg7);clear hq7 hg7))
     go_roundg (k - (i+1))
     case rel=>
      have hx7:=(Below.refl w.heap.size wr).grown H7.out.2 hxi.le (fun g e=>HQ.out.1.block g e)
      refine ⟨i+1,by omega,rfl,by go_num,Below.trans hxi hx7,?_,fun r hr=>?_⟩
      ·rw [←HK1.out,flat_take hkL,List.map_append];exact H7.out.1
      ·obtain ⟨x,hx,hr'⟩:=List.mem_flatMap.1 hr
       obtain ⟨j,hj,rfl⟩:=List.getElem_of_mem (List.mem_of_mem_take hx)
       exact ((HL.out j hj).2 r hr').ext (Below.trans hxi hx7)
     case measure=>omega
    ·obtain rfl:i=k:=by omega
     have HFL:=Lib.hid (show (LV.take i).flatMap Prod.snd=LV.flatMap Prod.snd from by rw [List.take_of_length_le (by rw [HN.out];exact Nat.le_refl _)])
     go_wp2_with fail
     go_ret
     exact ⟨hxi,_,rfl,by rw [←HFL.out];exact HQ.out⟩
def KlistPost (T:Tr) (w:World) (e:Ending) (w':World):Prop:=Ext w w'∧∃ (v:Value) (c:Int),e=.returned (.tuple #[v,.int .i64 c])∧((c=0∧∃ R,RowsQ w' w.heap.size v R∧IsCuts T (R.map Row.l)∧R.length≤5000∧∀ x∈R,w.heap.size≤x.g)∨
 (c=16∧∃ L:List (List Nat),L.Pairwise (fun a b=>befP T.n (fn a) (fn b))∧(∀ l∈L,CutL T l)∧5000<L.length))
set_option maxHeartbeats 2000000 in
theorem klist_any (w:World) (T:TM) (hT:T.At w) (hV:T.toTr.Valid):Calls Tryz.prog 122 #[T.val] w (KlistPost T.toTr w):=by
 unfold KlistPost
 have hlv:=Lib.hid (fun W (x:Ext w W)=>klev_any W T (hT.ext x) hV)
 have hmp:∀ {w2:World} {LV:List (Value × List Row)} {B:Nat} {o:Option Nat},(∀ k (hk:k<LV.length),LvOk T.toTr w2 B o k LV[k])→∀ k (hk:k<LV.length),RowsH w2 B LV[k].1 LV[k].2∧∀ r∈LV[k].2,r.At w2:=fun h k hk=>⟨(h k hk).h,fun r hr=>((h k hk).a r hr).1⟩
 simp only [TM.val] at hlv ⊢
 clear hT hV
 go_enter Tryz.func122,Tryz.ntmps122
 go_upto_region 1 with fail
 refine boxed1 (w:=w) (G:=fun x=>Code.wp _ _ _ _ x) ?_
 intro w1 hx1 hs1 ⟨l0,c0,_,_⟩
 have hx11:Ext w1 w1:=Ext.refl _
 clear hs1
 go_upto_region 2 with (go_at_call 169;refine (hlv.out w1 hx1).mono ?_;rintro e w2 ⟨hx2,hp⟩;rcases hp with ⟨v,LV,rfl,hq,hl,hc,ht⟩ | ⟨rfl,hL⟩)
 ·have hcat:=kcat_any w2 w1.heap.size v LV hq (hmp hl) ht
  have hgg:∀ x∈LV.flatMap Prod.snd,w.heap.size≤x.g:=fun x hx=>by
   obtain ⟨y,hy,hx'⟩:=List.mem_flatMap.1 hx
   obtain ⟨j,hj,rfl⟩:=List.getElem_of_mem hy
   exact Nat.le_trans hx1.le ((hl j hj).g x hx')
  have HCU:=Lib.hid (And.intro hc (And.intro ht hgg))
  clear hmp hlv hq hl hc ht hgg
  go_wp2_with (go_at_call 170;refine hcat.mono ?_;rintro e w3 ⟨hx3,v3,rfl,hq3⟩)
  go_ret2
  exact ⟨(hx1.trans hx2).trans hx3,v3,0,rfl,.inl ⟨rfl,_,hq3.mono (hx1.trans hx2).le,HCU.out.1,HCU.out.2.1,HCU.out.2.2⟩⟩
 ·have hcat:=kcat_any w2 0 (.slice none 0 0) [] (Que.nil _ _ _) (fun k hk=>absurd hk (Nat.not_lt_zero _)) (Nat.zero_le _)
  have HL:=Lib.hid hL
  clear hmp hlv hL
  go_wp2_with (go_at_call 170;refine hcat.mono ?_;rintro e w3 ⟨hx3,v3,rfl,hq3⟩)
  go_ret2
  exact ⟨(hx1.trans hx2).trans hx3,v3,16,rfl,.inr ⟨rfl,HL.out⟩⟩
set_option maxHeartbeats 2000000 in
theorem kList_any (w:World) (T:TM) (hT:T.At w) (hV:T.toTr.Valid):Calls Tryz.prog 69 #[T.val] w (KlistPost T.toTr w):=by
 have hls:=Lib.hid (fun W (x:Ext w W)=>klist_any W T (hT.ext x) hV)
 simp only [TM.val] at hls ⊢
 clear hT hV
 go_enter Tryz.func69,Tryz.ntmps69
 go_upto_region 1 with fail
 refine boxed1 (w:=w) (G:=fun x=>Code.wp _ _ _ _ x) ?_
 intro w1 hx1 hs1 ⟨l0,c0,_,_⟩
 have hx11:Ext w1 w1:=Ext.refl _
 clear hs1
 go_wp2_with (go_at_call 122;refine (hls.out w1 hx1).mono ?_;rintro e w2 ⟨hx2,v,c,rfl,hp⟩)
 go_ret2
 refine ⟨hx1.trans hx2,v,c,rfl,?_⟩
 rcases hp with ⟨h0,R,h1,h2,h3,h4⟩ | hp
 ·exact .inl ⟨h0,R,h1.mono hx1.le,h2,h3,fun x hx=>Nat.le_trans hx1.le (h4 x hx)⟩
 ·exact .inr hp
theorem bool_fix {f:Nat} {args:Array Value} {w:World} {p:Prop} {b:Bool} (h:Calls Tryz.prog f args w (BoolPost p w)) (hb:b=true↔p):Calls Tryz.prog f args w (fun e w'=>e=.returned (.bool b)∧Ext w w'):=
 h.mono fun e w' ⟨c,he,hc,x⟩=>⟨by
  have:c=b:=by cases c <;> cases b <;> simp_all
  rw [he,this],x⟩
end Go.Proofs.YtmhapcnlpoilpaaGreatDoor
