/- Contracts and laws in plain Lean for RApp: group W46. -/
import Derived.Test.YtkhgpockmaghjaaGreatW45
import Derived.Test.YtkhgpockmaghjaaGreatW06
import Derived.Test.YtkhgpockmaghjaaGreatW20
import Derived.Test.YtkhgpockmaghjaaGreatW36
import Derived.Laws.EntriesVeiled
set_option maxRecDepth 100000
namespace Go.Proofs.YtkhgpockmaghjaaGreat
open Go.RowKit Go.Shelf
def Tr.sec (T:Tr) (x:NN):List NN:=if T.kind x.1 x.2=2∧0<(Ltr.of T T.evs).ti (T.msg x.1 x.2).toNat then [(((Ltr.of T T.evs).tp (T.msg x.1 x.2).toNat).toNat,((Ltr.of T T.evs).ti (T.msg x.1 x.2).toNat - 1).toNat)] else []
theorem fw_eq (T:Tr) (x:NN):T.fw x=(if x.2+1<T.en x.1 then [(x.1,x.2+1)] else [])++T.sec x:=rfl
theorem sec_found {T:Tr} (hV:T.Valid) {p i:Nat} (hx:T.V (p,i)) (h2:T.kind p i=2) {a b:Int} {f:Bool} (hf:T.FindIs 3 (T.msg p i) a b f):(f=true∧(T.sec (p,i)).map evI=[(a,b)])∨(f=false∧(T.sec (p,i)).map evI=[]):=by
 rcases hf with ⟨y,⟨hk,hm⟩,rfl,rfl,rfl⟩ | ⟨hn,_,_,rfl⟩
 ·refine .inl ⟨rfl,?_⟩
  have hl:=hV.letter y hk
  rw [hm] at hl
  unfold Tr.sec
  rw [if_pos ⟨h2,by rw [hl.2];omega⟩,hl.1,hl.2]
  simp [evI]
 ·refine .inr ⟨rfl,?_⟩
  unfold Tr.sec
  rw [if_neg]
  ·rfl
  ·rintro ⟨_,hpos⟩
   rcases Ltr.of_from T.evs Ltr.zero (T.msg p i).toNat with ⟨h1,_⟩ | ⟨x,_,k3,hmm,_⟩
   ·have h1':(Ltr.of T T.evs).ti (T.msg p i).toNat=Ltr.zero.ti (T.msg p i).toNat:=h1
    dsimp only at hpos
    rw [h1'] at hpos
    exact absurd hpos (by simp [Ltr.zero])
   ·refine hn x ⟨k3,?_⟩
    have q1:=hV.formed x
    have q2:FormedP T p (T.kind p i) (T.peer p i) (T.msg p i):=hV.formed ⟨(p,i),hx⟩
    rcases q1 with q | q <;> rcases q2 with r | r <;> omega
theorem sec_not {T:Tr} {p i:Nat} (h2:¬T.kind p i=2):(T.sec (p,i)).map evI=[]:=by
 unfold Tr.sec
 rw [if_neg (fun h=>h2 h.1)];rfl
set_option maxHeartbeats 2000000 in
theorem pafter_any (w : World) (T : TM) (hT : T.At w) (hV : T.toTr.Valid) (p i : Nat) (hp : p < T.n) (hi : i < T.en p) :
    Calls Tryz.prog 90 #[T.val,.agg #[.int .i64 p,.int .i64 (i+1)]] w (BackPost w ((T.toTr.fw (p,i)).map evI)):=by
 obtain ⟨i0,hi0,hz0,hz1,hz2⟩:=info_parts infoEv
 have pb:=hT.P.pb (by omega)
 have hen:=hV.en64 hp
 have hn8:=hV.n8
 have p2:∀ w',Ext w w'→w'.cell? ⟨T.b,T.off+p*3+2,none⟩=some (.slice (T.ea p) (T.en p) (T.ec p)):=fun w' h=>hT.P.p2 w' h p hp
 have hE:=fun W (hx:Ext w W)=>pevent_any W T (hT.ext hx) p i hp hi
 have hR:=fun W (hx:Ext w W) (h2:T.kind p i=2)=>(show Calls Tryz.prog 124 #[T.val,.int .i64 (T.msg p i)] W (fun e w'=>Ext W w'∧∃ (a b:Int) (f:Bool),e=.returned (.tuple #[.agg #[.int .i64 a,.int .i64 b],.bool f])∧((f=true∧(T.toTr.sec (p,i)).map evI=[(a,b)])∨(f=false∧(T.toTr.sec (p,i)).map evI=[]))) from
  (receiver_any W T (hT.ext hx) hV (T.msg p i)).mono fun e w' ⟨hx',a,b,f,he,hf⟩=>⟨hx',a,b,f,he,sec_found hV ⟨hp,hi⟩ h2 hf⟩)
 obtain ⟨ta,hta⟩:∃ z,z=T.a:=⟨_,rfl⟩
 obtain rfl:ta=some ⟨T.b,T.off,none⟩:=by rw [hta];exact hT.P.pa (by omega)
 simp only [TM.val,←hta] at hE hR ⊢
 have HE:=Lib.hid hE
 have HR:=Lib.hid hR
 have hp':(p:Int)<(T.n:Int):=by omega
 have hi':(i:Int)<(T.en p:Int):=by omega
 clear hT hV hE hR hta
 go_enter Tryz.func90,Tryz.ntmps90
 go_upto_region 1 with fail
 refine boxed2 (w:=w) (G:=fun x=>Code.wp _ _ _ _ x) ?_
 intro w1 hx1 hs1 ⟨l0,c0,_,_⟩ ⟨l1,c1,_,_⟩
 have hx11:Ext w1 w1:=Ext.refl _
 clear hs1
 go_upto_region 2 with fail
 by_cases h0:i+1<T.en p
 ·have d0:decide ((i:Int)+1<(T.en p:Int))=true:=decide_eq_true (by omega)
  go_quiet (fail)
  have hq11:Ext w1 (w1.drewN nq):=hx11.drewN nq
  generalize w1.drewN nq=w2 at hq11 ⊢
  have hw2:IntKind.i64.wrap ((i:Int)+1+1)=(i:Int)+1+1:=IntWalk.i64_in _ (by omega)
  go_upto_region 4 with (at_builtin;refine wpList_append_own _ rfl _ _ 129 rfl w1.heap.size 79 i0 (.agg #[.int .i64 0,.int .i64 0]) 2 16 Tryz.underlying129 hi0 hz0 hz1 hz2 rfl (by decide) (.slice none 0 0) 0 [] rfl (World.ownsRow_nil _ _ _ _) ⟨w2.heap.size,0,none⟩ 1 1 [.int .i64 p,.int .i64 (i+1+1)] rfl rfl (by exact news_ok w2 [_,_] _) (by intro u hu;simp at hu;rcases hu with rfl | rfl <;> rfl) (by unfold maxLen;omega) (by omega) (by have:=hq11.le;simp;omega) ?_;rintro v3 w3 hown3 hg3 -)
  have hx3:Ext w1 w3:=(hq11.alloc' _).below.grown hg3 (by have:=hq11.le;simp;omega) (fun k e=>by cases e)
  have HO3:=Lib.hid (EvOwn.snoc (l:=[]) hown3)
  have hx13:=hx1.trans hx3
  clear hown3 hg3
  have HB:=Lib.hid (show (if i+1<T.en p then [(p,i+1)] else ([]:List NN)).map evI=[((p:Int),(i:Int)+1+1)] by rw [if_pos h0];simp [evI])
  go_upto_region 5 with (go_at_call 52;refine (HE.out _ hx13).mono ?_;rintro e w4 ⟨rfl,hx4⟩)
  refine boxed1 (w:=w4) (G:=fun x=>Code.wp _ _ _ _ x) ?_
  intro w5 hx5 hs5 ⟨l5,c5,_,_⟩
  have hx55:Ext w5 w5:=Ext.refl _
  clear hs5
  have hx15:Ext w1 w5:=hx3.trans (hx4.trans hx5)
  have hx05:Ext w w5:=hx13.trans (hx4.trans hx5)
  have HO5:=Lib.hid (HO3.out.kept (hx4.trans hx5))
  by_cases hk2:T.kind p i=2
  ·have hrc:=HR.out w5 hx05 hk2
   go_upto_region 7 with (go_at_call 124;refine hrc.mono ?_;rintro e w6 ⟨hx6,a,b,f,rfl,hf⟩)
   refine boxed1 (w:=w6) (G:=fun x=>Code.wp _ _ _ _ x) ?_
   intro w7 hx7 hs7 ⟨l7,c7,_,_⟩
   have hx77:Ext w7 w7:=Ext.refl _
   have hx17:Ext w1 w7:=hx15.trans (hx6.trans hx7)
   have hx07:Ext w w7:=hx05.trans (hx6.trans hx7)
   have HO7:=Lib.hid (HO5.out.kept (hx6.trans hx7))
   clear hs7 hrc
   rcases hf with ⟨rfl,hsec⟩ | ⟨rfl,hsec⟩
   ·have HSC:=Lib.hid hsec
    clear hsec
    go_wp2_with (at_builtin;refine wpList_append_own _ rfl _ _ 129 rfl w1.heap.size 79 i0 (.agg #[.int .i64 0,.int .i64 0]) 2 16 Tryz.underlying129 hi0 hz0 hz1 hz2 rfl (by decide) v3 1 (evCells [((p:Int),(i:Int)+1+1)]) rfl (by exact HO7.out.alloc _) ⟨w7.heap.size,0,none⟩ 1 1 [.int .i64 a,.int .i64 b] rfl rfl (by exact news_ok w7 [_,_] _) (by intro u hu;simp at hu;rcases hu with rfl | rfl <;> rfl) (by unfold maxLen;omega) (by omega) (by have:=hx17.le;simp;omega) ?_;rintro v8 w8 hown8 hg8 -)
    go_ret
    refine ⟨_,rfl,?_,?_⟩
    ·rw [fw_eq,List.map_append,HB.out,HSC.out]
     exact World.ownsRow.mono (EvOwn.snoc (l:=[((p:Int),(i:Int)+1+1)]) hown8) hx1.le
    ·exact hx1.trans (((Below.mono hx17 (Nat.le_refl _)).alloc hx17.le _).grown hg8 (by have:=hx17.le;simp;omega) HO7.out.block)
   ·have HSC:=Lib.hid hsec
    clear hsec
    go_wp2_with fail
    go_ret
    refine ⟨_,rfl,?_,hx07⟩
    rw [fw_eq,List.map_append,HB.out,HSC.out,List.append_nil]
    exact World.ownsRow.mono HO7.out hx1.le
  ·have hk2b:(T.kind p i == 2)=false:=by simpa using hk2
   have HSC:=Lib.hid (sec_not hk2)
   go_wp2_with fail
   go_ret
   refine ⟨_,rfl,?_,hx05⟩
   rw [fw_eq,List.map_append,HB.out,HSC.out,List.append_nil]
   exact World.ownsRow.mono HO5.out hx1.le
 ·have d0:decide ((i:Int)+1<(T.en p:Int))=false:=decide_eq_false (by omega)
  go_quiet (fail)
  have hq11:Ext w1 (w1.drewN nq):=hx11.drewN nq
  have hq01:Ext w (w1.drewN nq):=hx1.drewN nq
  generalize w1.drewN nq=w2 at hq11 hq01 ⊢
  have HO3:=Lib.hid (EvOwn.nil w2 w1.heap.size)
  have HB:=Lib.hid (show (if i+1<T.en p then [(p,i+1)] else ([]:List NN)).map evI=[] by rw [if_neg h0];rfl)
  go_upto_region 5 with (go_at_call 52;refine (HE.out _ hq01).mono ?_;rintro e w4 ⟨rfl,hx4⟩)
  refine boxed1 (w:=w4) (G:=fun x=>Code.wp _ _ _ _ x) ?_
  intro w5 hx5 hs5 ⟨l5,c5,_,_⟩
  have hx55:Ext w5 w5:=Ext.refl _
  clear hs5
  have hx15:Ext w1 w5:=hq11.trans (hx4.trans hx5)
  have hx05:Ext w w5:=hq01.trans (hx4.trans hx5)
  have HO5:=Lib.hid (HO3.out.kept (hx4.trans hx5))
  by_cases hk2:T.kind p i=2
  ·have hrc:=HR.out w5 hx05 hk2
   go_upto_region 7 with (go_at_call 124;refine hrc.mono ?_;rintro e w6 ⟨hx6,a,b,f,rfl,hf⟩)
   refine boxed1 (w:=w6) (G:=fun x=>Code.wp _ _ _ _ x) ?_
   intro w7 hx7 hs7 ⟨l7,c7,_,_⟩
   have hx77:Ext w7 w7:=Ext.refl _
   have hx17:Ext w1 w7:=hx15.trans (hx6.trans hx7)
   have hx07:Ext w w7:=hx05.trans (hx6.trans hx7)
   have HO7:=Lib.hid (HO5.out.kept (hx6.trans hx7))
   clear hs7 hrc
   rcases hf with ⟨rfl,hsec⟩ | ⟨rfl,hsec⟩
   ·have HSC:=Lib.hid hsec
    clear hsec
    go_wp2_with (at_builtin;refine wpList_append_own _ rfl _ _ 129 rfl w1.heap.size 79 i0 (.agg #[.int .i64 0,.int .i64 0]) 2 16 Tryz.underlying129 hi0 hz0 hz1 hz2 rfl (by decide) (.slice none 0 0) 0 (evCells ([]:List (Int × Int))) rfl (by exact HO7.out.alloc _) ⟨w7.heap.size,0,none⟩ 1 1 [.int .i64 a,.int .i64 b] rfl rfl (by exact news_ok w7 [_,_] _) (by intro u hu;simp at hu;rcases hu with rfl | rfl <;> rfl) (by unfold maxLen;omega) (by omega) (by have:=hx17.le;simp;omega) ?_;rintro v8 w8 hown8 hg8 -)
    go_ret
    refine ⟨_,rfl,?_,?_⟩
    ·rw [fw_eq,List.map_append,HB.out,HSC.out]
     exact World.ownsRow.mono (EvOwn.snoc (l:=([]:List (Int × Int))) hown8) hx1.le
    ·exact hx1.trans (((Below.mono hx17 (Nat.le_refl _)).alloc hx17.le _).grown hg8 (by have:=hx17.le;simp;omega) HO7.out.block)
   ·have HSC:=Lib.hid hsec
    clear hsec
    go_wp2_with fail
    go_ret
    refine ⟨_,rfl,?_,hx07⟩
    rw [fw_eq,List.map_append,HB.out,HSC.out,List.append_nil]
    exact World.ownsRow.mono HO7.out hx1.le
  ·have hk2b:(T.kind p i == 2)=false:=by simpa using hk2
   have HSC:=Lib.hid (sec_not hk2)
   go_wp2_with fail
   go_ret
   refine ⟨_,rfl,?_,hx05⟩
   rw [fw_eq,List.map_append,HB.out,HSC.out,List.append_nil]
   exact World.ownsRow.mono HO5.out hx1.le
theorem lookE_none {y:Int × Int}:∀ {L:List ((Int × Int) × Value)},y∉L.map Prod.fst→lookE y L=none
 | [],_ => rfl
 | x :: L,h => by
  simp only [List.map_cons,List.mem_cons,not_or] at h
  unfold lookE
  rw [if_neg h.1];exact lookE_none h.2
theorem lookE_some {y:Int × Int}:∀ {L:List ((Int × Int) × Value)},y∈L.map Prod.fst→(lookE y L).isSome=true
 | [],h => by cases h
 | x :: L,h => by
  unfold lookE
  by_cases e:y=x.1
  ·rw [if_pos e];rfl
  ·rw [if_neg e]
   simp only [List.map_cons,List.mem_cons] at h
   exact lookE_some (h.resolve_left e)
structure MdI (w1:World) (bm:Nat) (ks:List NN) (NV:NN→Value) (G:NN→List NN) (wr:World):Prop where
 x:Ext w1 wr
 hb:w1.heap.size≤bm
 mp:∃ L,EMap wr bm L∧L.map Prod.fst=ks.map evI∧∀ z,z∈ks→lookE (evI z) L=some (NV z)
 rows:∀ z,z∈ks→EvOwn wr w1.heap.size (NV z) ((G z).map evI)∧(NV z).ownBlock≠some bm
 apart:∀ z,z∈ks→∀ y,y∈ks→z≠y→∀ b,(NV z).ownBlock=some b→(NV y).ownBlock≠some b
theorem MdI.lt {w1 wr:World} {bm:Nat} {ks:List NN} {NV:NN→Value} {G:NN→List NN} (h:MdI w1 bm ks NV G wr):bm<wr.heap.size:=by
 obtain ⟨L,hL,_⟩:=h.mp;exact hL.lt
theorem MdI.ext {w1 wr w':World} {bm:Nat} {ks:List NN} {NV:NN→Value} {G:NN→List NN} (h:MdI w1 bm ks NV G wr) (x:Ext wr w'):MdI w1 bm ks NV G w':=by
 obtain ⟨L,hL,hk,hl⟩:=h.mp
 exact ⟨h.x.trans x,h.hb,⟨L,hL.ext x,hk,hl⟩,fun z hz=>⟨(h.rows z hz).1.kept x,(h.rows z hz).2⟩,h.apart⟩
theorem MdI.like {w1 wr:World} {bm:Nat} {ks ks':List NN} {NV:NN→Value} {G G':NN→List NN} (h:MdI w1 bm ks NV G wr) (e:ks'=ks) (hG:∀ z,z∈ks→G' z=G z):MdI w1 bm ks' NV G' wr:=by
 subst e
 exact ⟨h.x,h.hb,h.mp,fun z hz=>by rw [hG z hz];exact h.rows z hz,h.apart⟩
theorem MdI.new (w1:World) (NV:NN→Value) (G:NN→List NN):MdI w1 w1.heap.size [] NV G (w1.alloc (.map #[] 0)):=
 ⟨Ext.alloc _ _,Nat.le_refl _,⟨[],EMap.new w1,rfl,fun z h=>(by cases h)⟩,fun z h=>(by cases h),fun z h=>(by cases h)⟩
theorem Ext.putObj {w w':World} (h:Ext w w') {b:Nat} (hb:w.heap.size≤b) (o:Obj):Ext w (w'.putObj b o):=
 Below.trans h ⟨rfl,rfl,rfl,by rw [show (w'.putObj b o).heap.size=w'.heap.size by simp];exact Nat.le_refl _,fun k hk=>World.putObj_heap_other (by omega)⟩
theorem MdI.add {w1 wr : World} {bm : Nat} {ks : List NN} {NV : NN → Value} {G : NN → List NN} (h : MdI w1 bm ks NV G wr) {z : NN} (hz : z ∉ ks) {W : World} (x : Ext wr W) {v : Value} (hv : EvOwn W wr.heap.size v ((G z).map evI))
    {L:List ((Int × Int) × Value)} (hk:L.map Prod.fst=ks.map evI) (hl:∀ y,y∈ks→lookE (evI y) L=some (NV y)) {o:Obj} (hm:EMap (W.putObj bm o) bm (updE (evI z) v L)):MdI w1 bm (ks++[z]) (fun y=>if y=z then v else NV y) G (W.putObj bm o):=by
 have hbm:=h.lt
 have hvne:∀ g,v.ownBlock=some g→wr.heap.size≤g:=hv.block
 have hzn:lookE (evI z) L=none:=lookE_none (by rw [hk];exact fun h1=>hz (evI_mem.1 h1))
 have hput:∀ {u:Value} {l:List (Int × Int)},EvOwn W w1.heap.size u l→u.ownBlock≠some bm→EvOwn (W.putObj bm o) w1.heap.size u l:=fun h1 h2=>h1.same fun g e=>World.putObj_heap_other fun e2=>h2 (e2▸e)
 refine ⟨(h.x.trans x).putObj h.hb o,h.hb,⟨updE (evI z) v L,hm,?_,fun y hy=>?_⟩,fun y hy=>?_,fun y hy u hu hne b hb1 hb2=>?_⟩
 ·rw [updE_none L hzn,List.map_append,hk,List.map_append];rfl
 ·rw [lookE_upd]
  by_cases e:y=z
  ·subst e;rw [if_pos rfl,if_pos rfl]
  ·rw [if_neg (fun h1=>e (evI_inj h1)),if_neg e]
   exact hl y (by simpa [e] using hy)
 ·skip
  by_cases e:y=z
  ·subst e
   rw [if_pos rfl]
   have hvm:v.ownBlock≠some bm:=fun h1=>by have:=hvne bm h1;omega
   exact ⟨hput (hv.base (Ext.le h.x)) hvm,hvm⟩
  ·rw [if_neg e]
   have h1:=h.rows y (by simpa [e] using hy)
   exact ⟨hput (h1.1.kept x) h1.2,h1.2⟩
 ·skip
  by_cases e:y=z
  ·rw [if_pos e] at hb1
   rw [if_neg (fun h1=>hne (e.trans h1.symm))] at hb2
   have h1:=h.rows u (by have e2:u≠z:=fun h1=>hne (e.trans h1.symm);simpa [e2] using hu)
   have h2:=h1.1.lt b hb2
   have h3:=hvne b hb1
   omega
  ·rw [if_neg e] at hb1
   have h1:=h.rows y (by simpa [e] using hy)
   have h2:=h1.1.lt b hb1
   by_cases e2:u=z
   ·rw [if_pos e2] at hb2
    have h3:=hvne b hb2
    omega
   ·rw [if_neg e2] at hb2
    exact h.apart y (by simpa [e] using hy) u (by simpa [e2] using hu) hne b hb1 hb2
theorem MdI.upd {w1 wr : World} {bm : Nat} {ks : List NN} {NV : NN → Value} {G G' : NN → List NN} (h : MdI w1 bm ks NV G wr) {y : NN} (hy : y ∈ ks) {W : World} (hxW : Ext w1 W)
    (hkeep:∀ g,g<wr.heap.size→g≠bm→(NV y).ownBlock≠some g→W.heap[g]?=wr.heap[g]?) {v:Value} (hv:EvOwn W w1.heap.size v ((G' y).map evI)) (hG:∀ z,z∈ks→z≠y→G' z=G z)
    (hvb:v.ownBlock=(NV y).ownBlock∨∀ g,v.ownBlock=some g→wr.heap.size≤g) {L:List ((Int × Int) × Value)} (hk:L.map Prod.fst=ks.map evI) (hl:∀ y,y∈ks→lookE (evI y) L=some (NV y)) {o:Obj} (hm:EMap (W.putObj bm o) bm (updE (evI y) v L)) :
    MdI w1 bm ks (fun u=>if u=y then v else NV u) G' (W.putObj bm o):=by
 have hbm:=h.lt
 have hput:∀ {u:Value} {l:List (Int × Int)},EvOwn W w1.heap.size u l→u.ownBlock≠some bm→EvOwn (W.putObj bm o) w1.heap.size u l:=fun h1 h2=>h1.same fun g e=>World.putObj_heap_other fun e2=>h2 (e2▸e)
 have hvm:v.ownBlock≠some bm:=fun h1=>by
  rcases hvb with h2 | h2
  ·exact (h.rows y hy).2 (h2▸h1)
  ·have:=h2 bm h1;omega
 have hap:∀ u,u∈ks→u≠y→∀ b,v.ownBlock=some b→(NV u).ownBlock≠some b:=fun u hu hne b h1 h2=>by
  rcases hvb with h3 | h3
  ·exact h.apart u hu y hy hne b h2 (h3▸h1)
  ·have h4:=h3 b h1
   have h5:=(h.rows u hu).1.lt b h2
   omega
 refine ⟨hxW.putObj h.hb o,h.hb,⟨updE (evI y) v L,hm,?_,fun u hu=>?_⟩,fun u hu=>?_,fun u hu t ht hne b hb1 hb2=>?_⟩
 ·rw [keysE_upd L (by rw [hl y hy];rfl),hk]
 ·rw [lookE_upd]
  by_cases e:u=y
  ·subst e;rw [if_pos rfl,if_pos rfl]
  ·rw [if_neg (fun h1=>e (evI_inj h1)),if_neg e]
   exact hl u hu
 ·skip
  by_cases e:u=y
  ·subst e;rw [if_pos rfl];exact ⟨hput hv hvm,hvm⟩
  ·rw [if_neg e,hG u hu e]
   have h1:=h.rows u hu
   exact ⟨hput (h1.1.same fun g eg=>hkeep g (h1.1.lt g eg) (fun e2=>h1.2 (e2▸eg)) (fun e2=>h.apart u hu y hy e g eg e2)) h1.2,h1.2⟩
 ·skip
  by_cases e:u=y
  ·rw [if_pos e] at hb1
   have e2:t≠y:=fun h1=>hne (e.trans h1.symm)
   rw [if_neg e2] at hb2
   exact hap t ht e2 b hb1 hb2
  ·rw [if_neg e] at hb1
   by_cases e2:t=y
   ·rw [if_pos e2] at hb2
    exact hap u hu e b hb2 hb1
   ·rw [if_neg e2] at hb2
    exact h.apart u hu t ht hne b hb1 hb2
theorem toL_snoc (L:List Syn) (s:Syn) (x:NN):toL (L++[s]) x=toL L x++if s.1=evI x then [nnOf s.2] else []:=by
 unfold toL
 rw [List.filterMap_append]
 congr 1
 by_cases h:s.1=evI x
 ·simp [h]
 ·simp [h]
theorem gr_snoc (T:Tr) (L:List Syn) (s:Syn) (x:NN):T.gr (L++[s]) x=T.gr L x++if s.1=evI x then [nnOf s.2] else []:=by
 unfold Tr.gr
 rw [toL_snoc,List.append_assoc]
theorem gr_nil (T:Tr) (x:NN):T.gr [] x=T.fw x:=by simp [Tr.gr,toL]
theorem MdI.mono {w w1 wr:World} {bm:Nat} {ks:List NN} {NV:NN→Value} {G:NN→List NN} (h:MdI w1 bm ks NV G wr) (x:Ext w w1):MdI w bm ks NV G wr:=
 ⟨x.trans h.x,Nat.le_trans x.le h.hb,h.mp,fun z hz=>⟨(h.rows z hz).1.base x.le,(h.rows z hz).2⟩,h.apart⟩
theorem evs_new {T:Tr} {k i:Nat}:((k,i):NN)∉(T.evsTo k i).map (·.1):=fun h=>by
 obtain ⟨x,hx,e⟩:=List.mem_map.1 h
 have h1:=Tr.evsTo_mem hx
 rw [show x.1=(k,i) from e] at h1
 rcases h1 with h1 | ⟨_,h1⟩
 ·exact absurd h1 (Nat.lt_irrefl _)
 ·exact absurd h1 (Nat.lt_irrefl _)
theorem EvOwn.form {w:World} {base:Nat} {v:Value} {l:List (Int × Int)} (h:EvOwn w base v l):∃ a c,v=.slice a l.length c:=by
 obtain ⟨_,⟨hv,hn⟩ | ⟨g,cap,cur,hv,_⟩⟩:=h
 ·exact ⟨none,0,by rw [hv,hn]⟩
 ·exact ⟨_,cap,hv⟩
set_option maxHeartbeats 4000000 in
theorem made_any (w : World) (T : TM) (hT : T.At w) (hV : T.toTr.Valid) (D : SyD) (hD : D.At w) (hL : SynOk T.toTr D.l) (hDn : D.s.n ≤ 1000) :
    Calls Tryz.prog 71 #[T.val,.slice D.s.a D.s.n D.s.c] w fun e w'=>Ext w w'∧∃ bm NV,e=.returned (.map (some bm))∧MdI w bm (T.toTr.evs.map (·.1)) NV (T.toTr.gr D.l) w':=by
 obtain ⟨i0,hi0,hz0,hz1,hz2⟩:=info_parts infoEv
 have hn8:=hV.n8
 have HT:=Lib.hid hT
 have HV:=Lib.hid hV
 have HD:=Lib.hid hD
 have HL:=Lib.hid hL
 have hAF:=fun W (x:Ext w W) p i (hp:p<T.n) (hi:i<T.en p)=>pafter_any W T (hT.ext x) hV p i hp hi
 obtain ⟨ta,hta⟩:∃ z,z=T.a:=⟨_,rfl⟩
 obtain ⟨da,hda⟩:∃ z,z=D.s.a:=⟨_,rfl⟩
 obtain ⟨dn,hdn⟩:∃ z,z=D.s.n:=⟨_,rfl⟩
 have HTA:=Lib.hid hta
 have HDA:=Lib.hid (And.intro hda hdn)
 simp only [TM.val] at hAF ⊢
 rw [←hta] at hAF
 rw [←hta,←hda,←hdn]
 rw [←hdn] at hDn
 have HAF:=Lib.hid hAF
 have hmm:=@run_makeMap Tryz.prog
 clear hT hV hD hL hta hda hdn hAF
 go_enter Tryz.func71,Tryz.ntmps71
 go_upto_region 1 with fail
 refine boxed1 (w:=w) (G:=fun x=>Code.wp _ _ _ _ x) ?_
 intro w1 hx1 hs1 ⟨l0,c0,_,_⟩
 have hx11:Ext w1 w1:=Ext.refl _
 clear hs1
 go_upto_region 2 with fail
 have hM:=MdI.new w1 (fun _=>.bool false) T.toTr.fw
 obtain ⟨bm,hbm⟩:∃ z,z=w1.heap.size:=⟨_,rfl⟩
 rw [←hbm] at hM ⊢
 generalize w1.alloc (.map #[] 0)=w2 at hM ⊢
 have hx12:=hM.x
 have HM:=Lib.hid hM
 clear hM hbm
 go_wp2_with fail
 go_loopg [16] T.n (fun gg v16 wr=>∃ (k:Nat) (NV:NN→Value),k≤T.n∧gg=T.n - k∧v16=.int .i64 k∧MdI w1 bm ((T.toTr.evsTo k 0).map (·.1)) NV T.toTr.fw wr)
 case atStart=>exact ⟨0,_,by omega,rfl,rfl,HM.out⟩
 case round=>
  obtain ⟨k,NV,hk,rfl,rfl,hM⟩:=hrel
  have hx1r:=hM.x
  have hxw:=hx1.trans hx1r
  have HM:=Lib.hid hM
  clear hM hx12
  by_cases hlt:k<T.n
  ·have hlt':(k:Int)<(T.n:Int):=by omega
   obtain rfl:ta=some ⟨T.b,T.off,none⟩:=by rw [HTA.out];exact HT.out.P.pa (by omega)
   have hen:=HV.out.en64 hlt
   have pb:=HT.out.P.pb (by omega)
   obtain ⟨nm,hnm⟩:∃ z,z=T.name k:=⟨_,rfl⟩
   have p0:∀ w',Ext w w'→w'.cell? ⟨T.b,T.off+k*3,none⟩=some (.string nm):=fun w' h=>by rw [hnm];exact HT.out.P.p0 w' h k hlt
   have p1:∀ w',Ext w w'→w'.cell? ⟨T.b,T.off+k*3+1,none⟩=some (.slice (T.va k) (T.vn k) (T.vc k)):=fun w' h=>HT.out.P.p1 w' h k hlt
   have p2:∀ w',Ext w w'→w'.cell? ⟨T.b,T.off+k*3+2,none⟩=some (.slice (T.ea k) (T.en k) (T.ec k)):=fun w' h=>HT.out.P.p2 w' h k hlt
   clear hnm
   go_upto_region 5 with fail
   refine boxed1 (w:=wr) (G:=fun x=>Code.wp _ _ _ _ x) ?_
   intro w4 hx4 hs4 ⟨l4,c4,_,_⟩
   have hx44:Ext w4 w4:=Ext.refl _
   have HM4:=Lib.hid (HM.out.ext hx4)
   clear hs4 p0 p1 p2 pb
   go_wp2_with fail
   go_loopg [24] (T.en k) (fun gg v24 wi=>∃ (i:Nat) (NV:NN→Value),i≤T.en k∧gg=T.en k - i∧v24=.int .i64 i∧MdI w1 bm ((T.toTr.evsTo k i).map (·.1)) NV T.toTr.fw wi)
   case atStart=>exact ⟨0,NV,by omega,rfl,rfl,HM4.out⟩
   case round=>
    rename World=>wi
    obtain ⟨i,NVi,hi,rfl,rfl,hM⟩:=hrel
    have hx1i:=hM.x
    have hxwi:=hx1.trans hx1i
    have HMi:=Lib.hid hM
    clear hM hx44
    by_cases hli:i<T.en k
    ·have hli':(i:Int)<(T.en k:Int):=by omega
     have hw1:IntKind.i64.wrap ((i:Int)+1)=(i:Int)+1:=IntWalk.i64_in _ (by omega)
     go_upto_region 9 with fail
     refine boxed1 (w:=wi) (G:=fun x=>Code.wp _ _ _ _ x) ?_
     intro w6 hx6 hs6 ⟨l6,c6,_,_⟩
     have hx66:Ext w6 w6:=Ext.refl _
     have hx16:=hx1i.trans hx6
     have hxw6:=hx1.trans hx16
     have hcall:=HAF.out w6.drew hxw6.drew k i hlt hli
     clear hs6
     refine wp_region_T (t:=5) (S:=fun _=>True) (R:=fun w'=>Ext w6 w') (by kernel_rfl) trivial (Ext.refl w6).drew (fun hHeld=>?_)
     refine takeR 0 (v:=?_) rfl (by kernel_rfl) (by kernel_rfl) (by kernel_rfl) (by kernel_rfl) (by kernel_rfl) (fun _ _ _ h=>h) (by decide) (Or.inl ⟨by rfl,?_⟩) hHeld.1 hHeld.2 ?_
     rotate_left
     ·intro w' hSw
      have hSX:=hSw.2
      (try dsimp only at hSX)
      have hS1:=hx16.trans hSX
      have hSS:=Ext.refl w'
      go_simp
      try with_reducible rfl
     try simp only [Act.put,zA,zB,zC]
     refine takeR 1 (v:=?_) rfl (by kernel_rfl) (by kernel_rfl) (by kernel_rfl) (by kernel_rfl) (by kernel_rfl) (fun _ _ _ h=>h) (by decide) (Or.inl ⟨by rfl,?_⟩) hHeld.1 hHeld.2 ?_
     rotate_left
     ·intro w' hSw
      have hSX:=hSw.2
      (try dsimp only at hSX)
      have hS1:=hx16.trans hSX
      have hSS:=Ext.refl w'
      go_simp
      try with_reducible rfl
     try simp only [Act.put,zA,zB,zC]
     refine takeR 2 (v:=?_) rfl (by kernel_rfl) (by kernel_rfl) (by kernel_rfl) (by kernel_rfl) (by kernel_rfl) (fun _ _ _ h=>h) (by decide) (Or.inl ⟨by rfl,?_⟩) hHeld.1 hHeld.2 ?_
     rotate_left
     ·intro w' hSw
      have hSX:=hSw.2
      (try dsimp only at hSX)
      have hS1:=hx16.trans hSX
      have hSS:=Ext.refl w'
      go_simp
      try with_reducible rfl
     try simp only [Act.put,zA,zB,zC]
     refine takeR 3 (v:=?_) rfl (by kernel_rfl) (by kernel_rfl) (by kernel_rfl) (by kernel_rfl) (by kernel_rfl) (fun _ _ _ h=>h) (by decide) (Or.inl ⟨by rfl,?_⟩) hHeld.1 hHeld.2 ?_
     rotate_left
     ·intro w' hSw
      have hSX:=hSw.2
      (try dsimp only at hSX)
      have hS1:=hx16.trans hSX
      have hSS:=Ext.refl w'
      go_simp
      try with_reducible rfl
     try simp only [Act.put,zA,zB,zC]
     refine wpAnyT_ready (rs:=[4]) (by kernel_rfl) (by simp) ?_
     refine AllReadyT.cons rfl (fun K hK=>?_) AllReadyT.nil
     go_simp
     go_at_call 90
     refine hcall.mono ?_
     rintro e w7 ⟨v,rfl,hv,hx7⟩
     have hx67:Ext w6 w7:=(Ext.refl w6).drew.trans hx7
     refine hK.out _ _ ⟨trivial,hx67⟩ (fun hHeld2=>?_)
     clear hK K
     try simp only [Act.put,zA,zB,zC]
     obtain ⟨L,hLm,hLk,hLl⟩:=(HMi.out.ext (hx6.trans hx67)).mp
     obtain ⟨o,hup,hm⟩:=hLm.put (mt:=112) Tryz.underlying112 (evI (k,i)) v
     have HA:=Lib.hid (HMi.out.add evs_new (hx6.trans hx67) (hv.base hx6.le) hLk hLl hm)
     clear hLm hLk hLl hm hv
     refine wpAnyT_ready (rs:=[5]) (by kernel_rfl) (by simp) ?_
     refine AllReadyT.late rfl (by decide) (fun K hK=>?_) AllReadyT.nil
     go_simp
     refine hK.out _ _ trivial (fun hHeld3=>?_)
     clear hK K
     try simp only [Act.put,zA,zB,zC]
     refine wpAnyT_done (by kernel_rfl) ?_ _
     clear hHeld hHeld2 hHeld3 hcall hup
     generalize w7.putObj bm o=w8 at HA ⊢
     have HB:=Lib.hid (HA.out.like (ks':=(T.toTr.evsTo k (i+1)).map (·.1)) (G':=T.toTr.fw) (by rw [T.toTr.evsTo_succ k i hlt hli,List.map_append];rfl) (fun _ _=>rfl))
     go_wp2_with fail
     go_roundg (T.en k - (i+1))
     case rel=>exact ⟨i+1,_,by omega,rfl,by go_num,HB.out⟩
     case measure=>omega
    ·obtain rfl:i=T.en k:=by omega
     have HB:=Lib.hid (HMi.out.like (ks':=(T.toTr.evsTo (k+1) 0).map (·.1)) (G':=T.toTr.fw) (by rw [T.toTr.evsTo_next k]) (fun _ _=>rfl))
     go_wp2_with fail
     go_roundg (T.n - (k+1))
     case rel=>exact ⟨k+1,_,by omega,rfl,by go_num,HB.out⟩
     case measure=>omega
  ·obtain rfl:k=T.n:=by omega
   have HB:=Lib.hid (HM.out.like (ks':=T.toTr.evs.map (·.1)) (G':=T.toTr.gr (D.l.take 0)) rfl (fun z _=>by rw [List.take_zero,gr_nil]))
   clear HM hxw
   go_wp2_with fail
   go_loopg [40] dn (fun gg v40 wr=>∃ (j:Nat) (NV:NN→Value),j≤dn∧gg=dn - j∧v40=.int .i64 j∧MdI w1 bm (T.toTr.evs.map (·.1)) NV (T.toTr.gr (D.l.take j)) wr)
   case atStart=>exact ⟨0,_,by omega,rfl,rfl,HB.out⟩
   case round=>
    rename World=>wi
    obtain ⟨j,NVi,hj,rfl,rfl,hM⟩:=hrel
    have hx1i:=hM.x
    have hxwi:=hx1.trans hx1i
    have HMi:=Lib.hid hM
    clear hM hx1r
    by_cases hlj:j<dn
    ·have hlj':(j:Int)<(dn:Int):=by omega
     have hjn:j<D.s.n:=by rw [←HDA.out.2];exact hlj
     obtain rfl:da=some ⟨D.s.b,D.s.o,none⟩:=by rw [HDA.out.1];exact HD.out.ha (by omega)
     have dlt:∀ w',Ext w w'→D.s.b<w'.heap.size:=fun w' x=>Nat.lt_of_lt_of_le (HD.out.hb (by omega)) x.le
     obtain ⟨⟨xp,xi⟩,⟨yp,yi⟩,hxv,hyv,hxy⟩:=HL.out.nn (SyD.mem.2 ⟨j,hjn,rfl⟩)
     have hex:D.x j=((xp:Int),(xi:Int)+1):=congrArg Prod.fst hxy
     have hey:D.y j=((yp:Int),(yi:Int)+1):=congrArg Prod.snd hxy
     have s0:∀ w',Ext w w'→w'.cell? ⟨D.s.b,D.s.o+j*4,none⟩=some (.int .i64 xp):=fun w' x=>by have:=HD.out.c0 j hjn;rw [hex] at this;exact x.cell this
     have s1:∀ w',Ext w w'→w'.cell? ⟨D.s.b,D.s.o+j*4+1,none⟩=some (.int .i64 (xi+1)):=fun w' x=>by have:=HD.out.c1 j hjn;rw [hex] at this;exact x.cell this
     have s2:∀ w',Ext w w'→w'.cell? ⟨D.s.b,D.s.o+j*4+2,none⟩=some (.int .i64 yp):=fun w' x=>by have:=HD.out.c2 j hjn;rw [hey] at this;exact x.cell this
     have s3:∀ w',Ext w w'→w'.cell? ⟨D.s.b,D.s.o+j*4+3,none⟩=some (.int .i64 (yi+1)):=fun w' x=>by have:=HD.out.c3 j hjn;rw [hey] at this;exact x.cell this
     have HTK:=Lib.hid (show D.l.take (j+1)=D.l.take j++[(evI (xp,xi),evI (yp,yi))] from by
      rw [List.take_add_one,D.get hjn]
      show _++[D.at j]=_
      rw [hxy])
     have HX:=Lib.hid (show ((xp,xi):NN)∈T.toTr.evs.map (·.1) from evs_mem hxv)
     have HLE:=Lib.hid (show (T.toTr.gr (D.l.take j) (xp,xi)).length≤2+1000 from by have:=gr_len T.toTr (D.l.take j) (xp,xi);rw [List.length_take,D.len] at this;omega)
     clear hex hey hxy hxv hyv
     go_upto_region 15 with fail
     refine boxed1 (w:=wi) (G:=fun x=>Code.wp _ _ _ _ x) ?_
     intro w6 hx6 hs6 ⟨l6,c6,_,_⟩
     have hx66:Ext w6 w6:=Ext.refl _
     have hx16:=hx1i.trans hx6
     have HM6:=Lib.hid (HMi.out.ext (hx6.alloc' (.cells #[.int .i64 yp,.int .i64 (yi+1)] 79)))
     clear hs6 s0 s1 s2 s3 dlt
     obtain ⟨L,hLm,hLk,hLl⟩:=HM6.out.mp
     obtain ⟨o,s,hent,hbk⟩:=hLm.entry (mt:=112) Tryz.underlying112 (hLl _ HX.out)
     obtain ⟨hrow,hrm⟩:=HM6.out.rows _ HX.out
     obtain ⟨ra,rc,hrf⟩:=hrow.form
     rw [List.length_map] at hrf
     obtain ⟨rn,hrn⟩:∃ z,z=(T.toTr.gr (D.l.take j) (xp,xi)).length:=⟨_,rfl⟩
     have hrn2:rn≤1002:=by rw [hrn];exact HLE.out
     have HRN:=Lib.hid (And.intro hrn hrf)
     rw [←hrn] at hrf
     rw [hrf] at hent hrow hrm
     have hbm6:bm<w6.heap.size:=Nat.lt_of_lt_of_le HMi.out.lt hx6.le
     have HW:=Lib.hid (show ((w6.alloc (.cells #[.int .i64 yp,.int .i64 (yi+1)] 79)).putObj bm o).ownsRow w1.heap.size 79 2 (.slice ra rn rc) rn (evCells ((T.toTr.gr (D.l.take j) (xp,xi)).map evI)) from by
      have h1:=hrow.same (w':=(w6.alloc (.cells #[.int .i64 yp,.int .i64 (yi+1)] 79)).putObj bm o) fun g e=>World.putObj_heap_other fun e2=>hrm (e2▸e)
      unfold EvOwn at h1
      rw [List.length_map,←hrn] at h1;exact h1)
     have HNW:=Lib.hid (show ∀ (j:Nat) (u:Value),[Value.int .i64 yp,.int .i64 (yi+1)][j]?=some u→((w6.alloc (.cells #[.int .i64 yp,.int .i64 (yi+1)] 79)).putObj bm o).cell? ((⟨w6.heap.size,0,none⟩:Addr).add j)=some u from fun j u hu=>by
      have h1:=news_ok w6 [Value.int .i64 yp,.int .i64 (yi+1)] 79 j u hu
      rw [Addr.add_lit] at h1 ⊢
      exact (World.cell?_of_block (w:=w6.alloc (.cells #[.int .i64 yp,.int .i64 (yi+1)] 79)) (a:=⟨w6.heap.size,0+j,none⟩) (World.putObj_heap_other (by show w6.heap.size≠bm;omega))).trans h1)
     have HBK:=Lib.hid (And.intro hbk (And.intro hLk hLl))
     have hps:((w6.alloc (.cells #[.int .i64 yp,.int .i64 (yi+1)] 79)).putObj bm o).heap.size=w6.heap.size+1:=by simp
     have hle6:=hx16.le
     have hsx:evV (evI (xp,xi))=.agg #[.int .i64 (xp:Int),.int .i64 ((xi:Int)+1)]:=rfl
     rw [hsx] at hent
     clear hLm hLk hLl hbk hrf hrow hrn hsx
     go_wp2_with (at_builtin;refine wpList_append_own_at _ rfl _ _ 129 rfl w1.heap.size 79 i0 (.agg #[.int .i64 0,.int .i64 0]) 2 16 Tryz.underlying129 hi0 hz0 hz1 hz2 rfl (by decide) (.slice ra rn rc) rn (evCells ((T.toTr.gr (D.l.take j) (xp,xi)).map evI)) rfl HW.out ⟨w6.heap.size,0,none⟩ 1 1 [.int .i64 yp,.int .i64 (yi+1)] rfl rfl HNW.out (by intro u hu;simp at hu;rcases hu with rfl | rfl <;> rfl) (by unfold maxLen;omega) (by omega) (by rw [hps];omega) ?_;rintro v8 w8 hown8 hg8 - hat8;obtain ⟨o2,hst,hm8⟩:=(HBK.out.1.same (hg8.block bm (by rw [hps];omega) fun e=>hrm e.symm)).store (mt:=112) v8;simp only [goInt] at hst)
     have HN8:=Lib.hid (show MdI w1 bm (T.toTr.evs.map (·.1)) (fun u=>if u=(xp,xi) then v8 else NVi u) (T.toTr.gr (D.l.take (j+1))) (w8.putObj bm o2) from by
      refine HM6.out.upd HX.out (W:=w8) ?_ (fun g h1 h2 h3=>?_) ?_ (fun z hz hne=>?_) ?_ HBK.out.2.1 HBK.out.2.2 hm8
      ·refine Below.grown (show Below w1.heap.size w1 _ from (HM6.out.x.putObj HM6.out.hb o)) hg8 (by rw [hps];omega) fun g e=>?_
       have h1:=(HM6.out.rows _ HX.out).1.block g
       rw [HRN.out.2,←HRN.out.1] at h1
       exact h1 e
      ·rw [HRN.out.2,←HRN.out.1] at h3
       exact (hg8.block g (by rw [hps];rw [World.size_alloc] at h1;exact h1) fun e=>h3 e.symm).trans (World.putObj_heap_other h2)
      ·rw [HTK.out,gr_snoc,if_pos rfl,nnOf_evI,List.map_append]
       exact EvOwn.snoc (by rw [List.length_map,←HRN.out.1];exact hown8)
      ·rw [HTK.out,gr_snoc,if_neg (fun h=>hne (evI_inj h).symm),List.append_nil]
      ·rw [HRN.out.2,←HRN.out.1]
       rcases hat8 with h1 | h1
       ·exact .inl h1
       ·refine .inr fun g e=>?_
        rw [h1] at e
        obtain rfl:_=g:=by simpa using e
        rw [World.size_alloc];exact Nat.le_refl _)
     clear hown8 hg8 hat8 hst hm8 hent
     generalize w8.putObj bm o2=w9 at HN8 ⊢
     go_wp2_with fail
     go_roundg (dn - (j+1))
     case rel=>exact ⟨j+1,_,by omega,rfl,by go_num,HN8.out⟩
     case measure=>omega
    ·obtain rfl:j=dn:=by omega
     have HN:=Lib.hid ((HMi.out.mono hx1).like (ks':=T.toTr.evs.map (·.1)) (G':=T.toTr.gr D.l) rfl fun z _=>by rw [List.take_of_length_le (by rw [D.len,←HDA.out.2];exact Nat.le_refl _)])
     go_wp2_with fail
     go_ret
     exact ⟨hxwi,bm,NVi,rfl,HN.out⟩
end Go.Proofs.YtkhgpockmaghjaaGreat
