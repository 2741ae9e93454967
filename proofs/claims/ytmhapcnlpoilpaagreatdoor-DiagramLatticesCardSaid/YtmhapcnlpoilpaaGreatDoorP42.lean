/- Contracts and laws in plain Lean for RApp: group P42. -/
import Derived.Test.YtmhapcnlpoilpaaGreatDoorP40
import Derived.Test.YtmhapcnlpoilpaaGreatDoorP06
import Derived.Test.YtmhapcnlpoilpaaGreatDoorP20
import Derived.Test.YtmhapcnlpoilpaaGreatDoorP36
import Derived.Test.YtmhapcnlpoilpaaGreatDoorP18
set_option maxRecDepth 100000
namespace Go.Proofs.YtmhapcnlpoilpaaGreatDoor
open Go.RowKit Go.Shelf
noncomputable def Tr.need (T:Tr) (p i:Nat):Int × Int:=if T.kind p i=3 then (((T.sndN (p,i)).1:Int),((T.sndN (p,i)).2:Int)+1) else (0,0)
noncomputable def needL (T:Tr) (p k:Nat):List (Int × Int):=(List.range k).map (T.need p)
def lensL (T:Tr) (k:Nat):List Int:=(List.range k).map fun p=>(T.en p:Int)
theorem needL_succ (T:Tr) (p k:Nat):needL T p (k+1)=needL T p k++[T.need p k]:=by simp [needL,List.range_succ]
theorem needL_len (T:Tr) (p k:Nat):(needL T p k).length=k:=by simp [needL]
theorem lensL_succ (T:Tr) (k:Nat):lensL T (k+1)=lensL T k++[(T.en k:Int)]:=by simp [lensL,List.range_succ]
structure MkI (T:Tr) (B kl kn:Nat) (vl vn:Value) (NV:Nat→Value) (w:World):Prop where
 ql:Que w B 1 vl kl (intCells (lensL T kl))
 qn:Que w B 1 vn kn ((List.range kn).map NV)
 qv:∀ p,p<kn→Que w B 2 (NV p) (T.en p) (evCells (needL T p (T.en p)))∧∀ b,(NV p).ownBlock=some b→b<w.heap.size
 al:∀ b,vl.ownBlock=some b→b<w.heap.size∧vn.ownBlock≠some b∧∀ p,p<kn→(NV p).ownBlock≠some b
 an:∀ b,vn.ownBlock=some b→b<w.heap.size∧∀ p,p<kn→(NV p).ownBlock≠some b
theorem MkI.ext {T:Tr} {B kl kn:Nat} {vl vn:Value} {NV:Nat→Value} {w w':World} (h:MkI T B kl kn vl vn NV w) (x:Ext w w'):MkI T B kl kn vl vn NV w':=
 ⟨h.ql.ext x,h.qn.ext x,fun p hp=>⟨(h.qv p hp).1.ext x,fun b e=>Nat.lt_of_lt_of_le ((h.qv p hp).2 b e) x.le⟩,fun b e=>⟨Nat.lt_of_lt_of_le (h.al b e).1 x.le,(h.al b e).2⟩,fun b e=>⟨Nat.lt_of_lt_of_le (h.an b e).1 x.le,(h.an b e).2⟩⟩
theorem MkI.low {T:Tr} {B kl kn:Nat} {vl vn:Value} {NV:Nat→Value} {w:World} (h:MkI T B kl kn vl vn NV w) (p:Addr) (v:Value) (hp:p.block<B):MkI T B kl kn vl vn NV (w.setCell p v):=by
 have hs:(w.setCell p v).heap.size=w.heap.size:=World.size_setCell _ _ _
 have hb:∀ g,B≤g→g<w.heap.size→(w.setCell p v).heap[g]?=w.heap[g]?:=fun g hg _=>Below.heap_setCell _ _ _ _ (by omega)
 exact ⟨h.ql.same (by omega) hb,h.qn.same (by omega) hb,fun q hq=>⟨(h.qv q hq).1.same (by omega) hb,fun b e=>by rw [hs];exact (h.qv q hq).2 b e⟩,fun b e=>by rw [hs];exact h.al b e,fun b e=>by rw [hs];exact h.an b e⟩
theorem MkI.pushL {T:Tr} {B kl kn:Nat} {vl vn vl':Value} {NV:Nat→Value} {w w':World} (h:MkI T B kl kn vl vn NV w) (hg:w.grownBy w' vl.ownBlock) (hq:Que w' B 1 vl' (kl+1) (intCells (lensL T (kl+1)))) (ho:vl'.ownBlock=vl.ownBlock∨vl'.ownBlock=some w.heap.size) (hl:∀ b,vl'.ownBlock=some b→b<w'.heap.size):MkI T B (kl+1) kn vl' vn NV w':=by
 have hne:∀ {v:Value},(∀ b,vl.ownBlock=some b→v.ownBlock≠some b)→(∀ b,v.ownBlock=some b→b<w.heap.size)→∀ g,v.ownBlock=some g→w'.heap[g]?=w.heap[g]?:=fun h1 h2 g e=>hg.block g (h2 g e) fun e2=>h1 g e2.symm e
 have hn2:∀ b,vn.ownBlock=some b→b<w.heap.size:=fun b e=>(h.an b e).1
 refine ⟨hq,h.qn.same' hg.size (hne (fun b e=>(h.al b e).2.1) hn2),fun p hp=>⟨(h.qv p hp).1.same' hg.size (hne (fun b e=>(h.al b e).2.2 p hp) (h.qv p hp).2),fun b e=>Nat.lt_of_lt_of_le ((h.qv p hp).2 b e) hg.size⟩,fun b e=>?_,fun b e=>⟨Nat.lt_of_lt_of_le (h.an b e).1 hg.size,(h.an b e).2⟩⟩
 refine ⟨hl b e,?_⟩
 rcases ho with h1 | h1
 ·rw [h1] at e;exact (h.al b e).2
 ·rw [h1] at e
  obtain rfl:w.heap.size=b:=by simpa using e
  exact ⟨fun e2=>absurd (hn2 _ e2) (Nat.lt_irrefl _),fun p hp e2=>absurd ((h.qv p hp).2 _ e2) (Nat.lt_irrefl _)⟩
theorem MkI.pushN {T : Tr} {B kl kn : Nat} {vl vn vn' nv : Value} {NV : Nat → Value} {w w' : World} (h : MkI T B kl kn vl vn NV w) (hg : w.grownBy w' vn.ownBlock) (hq : Que w' B 1 vn' (kn + 1) ((List.range kn).map NV ++ [nv])) (ho : vn'.ownBlock = vn.ownBlock ∨ vn'.ownBlock = some w.heap.size) (hl : ∀ b, vn'.ownBlock = some b → b < w'.heap.size)
    (hnv:Que w B 2 nv (T.en kn) (evCells (needL T kn (T.en kn)))) (hn1:∀ b,nv.ownBlock=some b→b<w.heap.size∧vl.ownBlock≠some b∧vn.ownBlock≠some b):MkI T B kl (kn+1) vl vn' (fun p=>if p=kn then nv else NV p) w':=by
 have hne:∀ {v:Value},(∀ b,vn.ownBlock=some b→v.ownBlock≠some b)→(∀ b,v.ownBlock=some b→b<w.heap.size)→∀ g,v.ownBlock=some g→w'.heap[g]?=w.heap[g]?:=fun h1 h2 g e=>hg.block g (h2 g e) fun e2=>h1 g e2.symm e
 have hmap:(List.range (kn+1)).map (fun p=>if p=kn then nv else NV p)=(List.range kn).map NV++[nv]:=by
  rw [List.range_succ,List.map_append]
  congr 1
  ·exact List.map_congr_left fun p hp=>if_neg (by have:=List.mem_range.1 hp;omega)
  ·simp
 have hap:∀ p,p<kn+1→∀ b,((fun p=>if p=kn then nv else NV p) p).ownBlock=some b→(p=kn∧nv.ownBlock=some b)∨(p<kn∧(NV p).ownBlock=some b):=fun p hp b e=>by
  dsimp only at e
  split at e
  ·next h1=>exact .inl ⟨h1,e⟩
  ·next h1=>exact .inr ⟨by omega,e⟩
 refine ⟨h.ql.same' hg.size (hne (fun b e e2=>(h.al b e2).2.1 e) fun b e=>(h.al b e).1),by rw [hmap];exact hq,fun p hp=>⟨?_,fun b e=>?_⟩,fun b e=>⟨Nat.lt_of_lt_of_le (h.al b e).1 hg.size,fun e2=>?_,fun p hp e2=>?_⟩,fun b e=>⟨hl b e,fun p hp e2=>?_⟩⟩
 ·show Que w' B 2 (if p=kn then nv else NV p) _ _
  split
  ·next h1=>subst h1;exact hnv.same' hg.size (hne (fun b e e2=>(hn1 b e2).2.2 e) fun b e=>(hn1 b e).1)
  ·next h1=>exact (h.qv p (by omega)).1.same' hg.size (hne (fun b e=>(h.an b e).2 p (by omega)) (h.qv p (by omega)).2)
 ·rcases hap p hp b e with ⟨_,e⟩ | ⟨h1,e⟩
  ·exact Nat.lt_of_lt_of_le (hn1 b e).1 hg.size
  ·exact Nat.lt_of_lt_of_le ((h.qv p h1).2 b e) hg.size
 ·rcases ho with h1 | h1
  ·rw [h1] at e2;exact (h.al b e).2.1 e2
  ·rw [h1] at e2
   obtain rfl:w.heap.size=b:=by simpa using e2
   exact absurd (h.al _ e).1 (Nat.lt_irrefl _)
 ·rcases hap p hp b e2 with ⟨_,e2⟩ | ⟨h1,e2⟩
  ·exact (hn1 b e2).2.1 e
  ·exact (h.al b e).2.2 p h1 e2
 ·rcases ho with h1 | h1
  ·rw [h1] at e
   rcases hap p hp b e2 with ⟨_,e2⟩ | ⟨h1,e2⟩
   ·exact (hn1 b e2).2.2 e
   ·exact (h.an b e).2 p h1 e2
  ·rw [h1] at e
   obtain rfl:w.heap.size=b:=by simpa using e
   rcases hap p hp _ e2 with ⟨_,e2⟩ | ⟨h1,e2⟩
   ·exact absurd (hn1 _ e2).1 (Nat.lt_irrefl _)
   ·exact absurd ((h.qv p h1).2 _ e2) (Nat.lt_irrefl _)
theorem MkI.mono {T:Tr} {B B' kl kn:Nat} {vl vn:Value} {NV:Nat→Value} {w:World} (h:MkI T B kl kn vl vn NV w) (hb:B'≤B):MkI T B' kl kn vl vn NV w:=
 ⟨h.ql.mono hb,h.qn.mono hb,fun p hp=>⟨(h.qv p hp).1.mono hb,(h.qv p hp).2⟩,h.al,h.an⟩
theorem intCells_snoc (l:List Int) (x:Int):intCells (l++[x])=intCells l++[.int .i64 x]:=by simp [intCells]
def MkAt (w:World) (B:Nat) (T:Tr) (v:Value):Prop:=∃ vl vn NV,v=.agg #[vl,vn]∧MkI T B T.n T.n vl vn NV w
theorem infoEvs1:(Tryz.prog.info? 77).map (fun i=>(i.zero,i.size,i.bytes))=some (some (.slice none 0 0),1,24):=by kernel_rfl
theorem kof_results (tmps : Array Value) (W : World) (b : Nat) (x0 x1 : Value) (t2 : tmps[2]? = some (.pointer (some ⟨b, 0, none⟩))) (c0 : W.cell? ⟨b, 0, none⟩ = some x0) (c1 : W.cell? ⟨b, 1, none⟩ = some x1) :
    (results Tryz.f203 tmps).run Tryz.prog W=.ok (.agg #[x0,x1]) W:=by
 simp [results,go_sem,t2,c0,c1]
theorem setm2 {w:World} {p q:Addr} {v u:Value} {G:World→Prop} (h:∀ w7,w7=(w.setCell p v).setCell q u→G w7):G ((w.setCell p v).setCell q u):=h _ rfl
structure KofI (T:TM) (ta:Option Addr) (b k:Nat) (vl vn:Value) (NV:Nat→Value) (wr:World):Prop where
 h1:Hold wr b #[.slice ta T.n T.cap]
 h2:Hold wr (b+1) #[.slice none 0 0,.slice none 0 0]
 h3:Hold wr (b+1+1) #[vl,vn]
 ma:MkI T.toTr (b+1+1+1) k k vl vn NV wr
theorem Hold.grownB {B b:Nat} {w w':World} {c:Array Value} {o:Option Nat} (h:Hold w b c) (hb:b<B) (hg:w.grownBy w' o) (hB:B≤w.heap.size) (ho:∀ g,o=some g→B≤g):Hold w' b c:=h.below ((Below.refl B w).grown hg hB ho) hb
set_option maxHeartbeats 4000000 in
theorem kof_any (w : World) (T : TM) (hT : T.At w) (hV : T.toTr.Valid) :
    Calls Tryz.prog 203 #[T.val] w fun e w'=>∃ v,e=.returned v∧MkAt w' w.heap.size T.toTr v∧Ext w w':=by
 obtain ⟨i0,hi0,hz0,hz1,hz2⟩:=info_parts infoInt
 obtain ⟨j0,hj0,hy0,hy1,hy2⟩:=info_parts infoEv
 obtain ⟨q0,hq0,hw0,hw1,hw2⟩:=info_parts infoEvs1
 have HT:=Lib.hid hT
 have HV:=Lib.hid hV
 have hn8:=hV.n8
 obtain ⟨ta,hta⟩:∃ z,z=T.a:=⟨_,rfl⟩
 have HTA:=Lib.hid hta
 simp only [TM.val]
 rw [←hta]
 clear hT hV hta
 go_enter Tryz.func203,Tryz.ntmps203
 go_upto_region 2 with fail
 refine boxed3 (w:=w) (G:=fun x=>Code.wp _ _ _ _ x) ?_
 intro w1 hx1 hs1 ⟨l0,c0,f0,k0⟩ ⟨l1,c1,f1,k1⟩ ⟨l2,c2,f2,k2⟩
 have hx11:Ext w1 w1:=Ext.refl _
 have HB:=Lib.hid hs1
 have HST:=Lib.hid (show KofI T ta w.heap.size 0 (.slice none 0 0) (.slice none 0 0) (fun _=>.bool false) w1 from ⟨k0,k1,k2,⟨Que.nil _ _ _,Que.nil _ _ _,fun p hp=>absurd hp (Nat.not_lt_zero _),fun b e=>(by cases e),fun b e=>(by cases e)⟩⟩)
 obtain ⟨B,hB⟩:∃ z,z=w.heap.size:=⟨_,rfl⟩
 have HBE:=Lib.hid hB
 rw [←hB] at HST HB c0 l0 f0 ⊢
 clear hs1 c1 f1 l1 k0 k1 k2 c2 f2 l2 hB
 go_wp2_with fail
 go_loopg [13] T.n (fun gg v13 wr=>∃ (k:Nat) (vl vn:Value) (NV:Nat→Value),k≤T.n∧gg=T.n - k∧v13=.int .i64 k∧KofI T ta B k vl vn NV wr∧Ext w wr)
 case atStart=>exact ⟨0,_,_,_,by omega,rfl,rfl,HST.out,hx1⟩
 case round=>
  obtain ⟨k,vl,vn,NV,hk,rfl,rfl,hI,hxw⟩:=hrel
  obtain ⟨al,cl,rfl⟩:=hI.ma.ql.slice
  obtain ⟨an,cn,rfl⟩:=hI.ma.qn.slice
  have HI:=Lib.hid hI
  have HM:=Lib.hid hI.ma
  have hBr:B+1+1+1≤wr.heap.size:=hI.h3.lt
  obtain ⟨m0,d0,g0,_⟩:=hI.h1.box
  obtain ⟨m3,d3,g3,_⟩:=hI.h3.box
  have hrr:Ext wr wr:=Ext.refl _
  clear hI l0 c0 f0 hx11
  by_cases hlt:k<T.n
  ·have hlt':(k:Int)<(T.n:Int):=by omega
   obtain rfl:ta=some ⟨T.b,T.off,none⟩:=by rw [HTA.out];exact HT.out.P.pa (by omega)
   have hen:=HV.out.en64 hlt
   have pb:=HT.out.P.pb (by omega)
   obtain ⟨nm,hnm⟩:∃ z,z=T.name k:=⟨_,rfl⟩
   obtain ⟨vr,hvr⟩:∃ z,z=Value.slice (T.va k) (T.vn k) (T.vc k):=⟨_,rfl⟩
   obtain ⟨ea,hea⟩:∃ z,z=T.ea k:=⟨_,rfl⟩
   have p0:∀ w',Ext w w'→w'.cell? ⟨T.b,T.off+k*3,none⟩=some (.string nm):=fun w' h=>by rw [hnm];exact HT.out.P.p0 w' h k hlt
   have p1:∀ w',Ext w w'→w'.cell? ⟨T.b,T.off+k*3+1,none⟩=some (.slice (T.va k) (T.vn k) (T.vc k)):=fun w' h=>HT.out.P.p1 w' h k hlt
   have p2:∀ w',Ext w w'→w'.cell? ⟨T.b,T.off+k*3+2,none⟩=some (.slice ea (T.en k) (T.ec k)):=fun w' h=>by rw [hea];exact HT.out.P.p2 w' h k hlt
   have HEA:=Lib.hid hea
   clear hnm hvr hea vr
   go_upto_region 5 with fail
   refine boxed1 (w:=wr) (G:=fun x=>Code.wp _ _ _ _ x) ?_
   intro w4 hx4 hs4 ⟨l4,c4,_,_⟩
   have hx44:Ext w4 w4:=Ext.refl _
   have HS4:=Lib.hid hs4
   clear hs4 p0 p1 p2 pb
   go_wp2_with fail
   go_loopg [6,20] (T.en k) (fun gg v6 v20 wi=>∃ i:Nat,i≤T.en k∧gg=T.en k - i∧v20=.int .i64 i∧Que wi w4.heap.size 2 v6 i (evCells (needL T.toTr k i))∧(∀ b,v6.ownBlock=some b→b<wi.heap.size)∧Ext w4 wi)
   case atStart=>exact ⟨0,by omega,rfl,rfl,Que.nil _ _ _,fun b e=>(by cases e),hx44⟩
   case round=>
    rename World=>wi
    obtain ⟨i,hi,rfl,rfl,hq,hob,hx4i⟩:=hrel
    obtain ⟨a6,c6,rfl⟩:=hq.slice
    have HQ:=Lib.hid hq
    have HOB:=Lib.hid hob
    have hxri:=hx4.trans hx4i
    have hxwi:=hxw.trans hxri
    clear hq hob hx44
    by_cases hli:i<T.en k
    ·have hli':(i:Int)<(T.en k:Int):=by omega
     obtain rfl:ea=some ⟨T.eb k,T.eo k,none⟩:=by rw [HEA.out];exact HT.out.E.ea k hlt (by omega)
     have eb:=HT.out.E.eb k hlt (by omega)
     obtain ⟨kd,hkd⟩:∃ z,z=T.kind k i:=⟨_,rfl⟩
     obtain ⟨mg,hmg⟩:∃ z,z=T.msg k i:=⟨_,rfl⟩
     have e0:∀ w',Ext w w'→w'.cell? ⟨T.eb k,T.eo k+i*5,none⟩=some (.int .i64 kd):=fun w' x=>by rw [hkd];exact HT.out.E.e0 w' x k i hlt hli
     have e1:∀ w',Ext w w'→w'.cell? ⟨T.eb k,T.eo k+i*5+1,none⟩=some (.int .i64 (T.peer k i)):=fun w' x=>HT.out.E.e1 w' x k i hlt hli
     have e2:∀ w',Ext w w'→w'.cell? ⟨T.eb k,T.eo k+i*5+2,none⟩=some (.int .i64 mg):=fun w' x=>by rw [hmg];exact HT.out.E.e2 w' x k i hlt hli
     have e3:∀ w',Ext w w'→w'.cell? ⟨T.eb k,T.eo k+i*5+3,none⟩=some (.int .i64 (T.time k i)):=fun w' x=>HT.out.E.e3 w' x k i hlt hli
     have e4:∀ w',Ext w w'→w'.cell? ⟨T.eb k,T.eo k+i*5+4,none⟩=some (.slice (T.aa k i) (T.an k i) (T.ac k i)):=fun w' x=>HT.out.E.e4 w' x k i hlt hli
     have HKD:=Lib.hid hkd
     have HMG:=Lib.hid hmg
     have hii:Ext wi wi:=Ext.refl _
     clear hkd hmg
     go_upto_region 10 with fail
     refine boxed2 (w:=wi) (G:=fun x=>Code.wp _ _ _ _ x) ?_
     intro w5 hx5 hs5 ⟨l5,c5,_,_⟩ ⟨l6,c6',f6,k6⟩
     have hx55:Ext w5 w5:=Ext.refl _
     have hxr5:=hxri.trans hx5
     have hxw5:=hxwi.trans hx5
     clear hs5 e0 e1 e2 e3 e4 eb
     by_cases h3:kd=3
     ·subst h3
      obtain ⟨⟨sp,si⟩,hsn⟩:∃ s,s=T.toTr.sndN (k,i):=⟨_,rfl⟩
      have hSnd:Calls Tryz.prog 215 #[T.val,.int .i64 mg] w5 fun e w'=>e=.returned (.tuple #[.agg #[.int .i64 sp,.int .i64 (si+1)],.bool true])∧Ext w5 w':=by
       rw [HMG.out]
       exact (sender_any w5 T (HT.out.ext hxw5) HV.out _).mono fun e w' ⟨hx',p,q,b,he,hf⟩=>by
        obtain ⟨hp,hq,hb⟩:=HV.out.found (x:=⟨(k,i),hlt,hli⟩) HKD.out.symm hf
        rw [←Tr.sndN_eq,←hsn] at hp hq
        exact ⟨by rw [he,hp,hq,hb],hx'⟩
      simp only [TM.val,←HTA.out] at hSnd
      have HND:=Lib.hid (show T.toTr.need k i=((sp:Int),(si:Int)+1) from by unfold Tr.need;rw [if_pos HKD.out.symm,←hsn])
      clear hsn
      go_upto_region 12 with (go_at_call 215;refine hSnd.mono ?_;rintro e w7 ⟨rfl,hx7⟩)
      refine setm2 (G:=fun x=>Code.wp _ _ _ _ x) ?_
      intro w8 hw8
      have hxi8:Ext wi w8:=by rw [hw8];exact ((hx5.trans hx7).setCell (by show _≤_+1;omega) _).setCell (by show _≤_+1;omega) _
      obtain ⟨_,c8,_,_⟩:=(show Hold w8 (wi.heap.size+1) #[.int .i64 sp,.int .i64 (si+1)] from by rw [hw8];exact ((Hold.ext k6 hx7).set 0 _).set 1 _).box
      have hxr8:=hxri.trans hxi8
      have hx88:Ext w8 w8:=Ext.refl _
      clear hw8 hSnd c5 l5 c6' l6 f6 k6
      go_upto_region 13 with (at_builtin;go_loud (refine wpList_append_que _ rfl _ _ 77 77 rfl (base:=w4.heap.size) (e:=47) (size:=2) j0 (.agg #[.int .i64 0,.int .i64 0]) 16 Tryz.underlying77 hj0 hy0 hy1 hy2 rfl rfl (v:=.slice a6 i c6) (n:=i) (xs:=evCells (needL T.toTr k i)) ((HQ.out.ext hxi8).ext (Ext.alloc _ _)) (by rw [World.size_alloc];have:=hx4i.le;have:=Ext.le hxi8;omega) (.slice (some ⟨w8.heap.size,0,none⟩) 1 1) 1 [.int .i64 (sp:Int),.int .i64 ((si:Int)+1)] rfl (by exact Src.ofSlice _ Tryz.underlying77 ⟨w8.heap.size,0,none⟩ 1 1 _ rfl (news_ok w8 _ _) (by intro u hu;simp at hu;rcases hu with rfl | rfl <;> rfl)) (by unfold maxLen;omega) (by omega) ?_;rintro v9 w9 hq9 hg9 ho9))
      have hx49:Ext w4 w9:=((hx4i.trans hxi8).alloc' _).below.grown hg9 (by rw [World.size_alloc];have:=hx4i.le;have:=Ext.le hxi8;omega) (fun g e=>by exact HQ.out.block g e)
      have HQ9:=Lib.hid (show Que w9 w4.heap.size 2 v9 (i+1) (evCells (needL T.toTr k (i+1))) from by rw [needL_succ,evCells_snoc,HND.out];exact hq9)
      have HO9:=Lib.hid (Que.own_lt hq9 (by omega))
      clear hq9 hg9 ho9
      go_wp2_with fail
      go_roundg (T.en k - (i+1))
      case rel=>exact ⟨i+1,by omega,rfl,by go_num,HQ9.out,HO9.out,hx49⟩
      case measure=>omega
     ·have HND:=Lib.hid (show T.toTr.need k i=(0,0) from by unfold Tr.need;rw [if_neg (by rw [←HKD.out];exact h3)])
      go_upto_region 13 with (at_builtin;go_loud (refine wpList_append_que _ rfl _ _ 77 77 rfl (base:=w4.heap.size) (e:=47) (size:=2) j0 (.agg #[.int .i64 0,.int .i64 0]) 16 Tryz.underlying77 hj0 hy0 hy1 hy2 rfl rfl (v:=.slice a6 i c6) (n:=i) (xs:=evCells (needL T.toTr k i)) ((HQ.out.ext hx5).ext (Ext.alloc _ _)) (by rw [World.size_alloc];have:=hx4i.le;have:=Ext.le hx5;omega) (.slice (some ⟨w5.heap.size,0,none⟩) 1 1) 1 [.int .i64 (0:Int),.int .i64 (0:Int)] rfl (by exact Src.ofSlice _ Tryz.underlying77 ⟨w5.heap.size,0,none⟩ 1 1 _ rfl (news_ok w5 _ _) (by intro u hu;simp at hu;rcases hu with rfl | rfl <;> rfl)) (by unfold maxLen;omega) (by omega) ?_;rintro v9 w9 hq9 hg9 ho9))
      have hx49:Ext w4 w9:=((hx4i.trans hx5).alloc' _).below.grown hg9 (by rw [World.size_alloc];have:=hx4i.le;have:=Ext.le hx5;omega) (fun g e=>by exact HQ.out.block g e)
      have HQ9:=Lib.hid (show Que w9 w4.heap.size 2 v9 (i+1) (evCells (needL T.toTr k (i+1))) from by rw [needL_succ,evCells_snoc,HND.out];exact hq9)
      have HO9:=Lib.hid (Que.own_lt hq9 (by omega))
      clear hq9 hg9 ho9
      go_wp2_with fail
      go_roundg (T.en k - (i+1))
      case rel=>exact ⟨i+1,by omega,rfl,by go_num,HQ9.out,HO9.out,hx49⟩
      case measure=>omega
    ·obtain rfl:i=T.en k:=by omega
     have HMi:=Lib.hid (HM.out.ext hxri)
     have HK3:=Lib.hid (HI.out.h3.ext hxri)
     have HK2:=Lib.hid (HI.out.h2.ext hxri)
     have HK1:=Lib.hid (HI.out.h1.ext hxri)
     have hBi:B+1+1+1≤wi.heap.size:=by have:=hxri.le;omega
     have hii:Ext wi wi:=Ext.refl _
     go_upto_region 15 with (at_builtin;go_loud (refine wpList_append_que _ rfl _ _ 25 25 rfl (base:=B+1+1+1) (e:=3) (size:=1) i0 (.int .i64 0) 8 Tryz.underlying25 hi0 hz0 hz1 hz2 rfl rfl (v:=.slice al k cl) (n:=k) (xs:=intCells (lensL T.toTr k)) (HMi.out.ql.ext (Ext.alloc _ _)) (by rw [World.size_alloc];omega) (.slice (some ⟨wi.heap.size,0,none⟩) 1 1) 1 [.int .i64 (T.en k)] rfl (by exact Src.ofSlice _ Tryz.underlying25 ⟨wi.heap.size,0,none⟩ 1 1 _ rfl (news_ok wi _ _) (by intro u hu;simp at hu;subst hu;rfl)) (by unfold maxLen;omega) (by omega) ?_;rintro v10 w10 hq10 hg10 ho10;obtain ⟨al2,cl2,rfl⟩:=hq10.slice;obtain ⟨l10,c10,f10,k10⟩:=(Hold.grownB (HK3.out.ext (Ext.alloc wi (.cells #[.int .i64 (T.en k)] 3))) (by omega) hg10 (by rw [World.size_alloc];omega) (fun g e=>HMi.out.ql.block g e)).box;have h1010:Ext w10 w10:=Ext.refl _))
     refine setm1 (G:=fun x=>Code.wp _ _ _ _ x) ?_
     intro w11 hw11
     have HM11:=Lib.hid (show MkI T.toTr (B+1+1+1) (k+1) k (.slice al2 (k+1) cl2) (.slice an k cn) NV w11 from by
      rw [hw11]
      exact ((HMi.out.ext (Ext.alloc _ _)).pushL hg10 (by rw [lensL_succ,intCells_snoc];exact hq10) ho10 (Que.own_lt hq10 (by omega))).low _ _ (by show B+1+1<B+1+1+1;omega))
     have HK11:=Lib.hid (show Hold w11 (B+1+1) #[.slice al2 (k+1) cl2,.slice an k cn] from by rw [hw11];exact Hold.set k10 0 _)
     have hlow:∀ {b:Nat} {c:Array Value},b<B+1+1→Hold wi b c→Hold w11 b c:=fun hb h=>by
      rw [hw11]
      exact (Hold.grownB (h.ext (Ext.alloc _ _)) (B:=B+1+1+1) (by omega) hg10 (by rw [World.size_alloc];omega) (fun g e=>HMi.out.ql.block g e)).other _ _ (by show _≠B+1+1;omega)
     have HK21:=Lib.hid (And.intro (hlow (by omega) HK1.out) (hlow (by omega) HK2.out))
     have HQ11:=Lib.hid (show Que w11 w4.heap.size 2 (.slice a6 (T.en k) c6) (T.en k) (evCells (needL T.toTr k (T.en k))) from by
      have h9:=(HQ.out.ext (Ext.alloc wi (.cells #[.int .i64 (T.en k)] 3))).same' hg10.size (fun g e=>hg10.block g (by have:=HOB.out g e;rw [World.size_alloc];omega) (fun e2=>by
       have h1:=HQ.out.block g e
       have h2:=(HM.out.al g e2.symm).1
       have:=hx4.le
       omega))
      rw [hw11]
      exact h9.same (Nat.le_of_eq (World.size_setCell _ _ _).symm) fun g hg _=>Below.heap_setCell _ _ _ _ (by show g≠B+1+1;have:=hx4.le;omega))
     have hs11:wi.heap.size≤w11.heap.size:=by rw [hw11,World.size_setCell];have:=hg10.size;rw [World.size_alloc] at this;omega
     have hxw11:Ext w w11:=by
      rw [hw11]
      exact Ext.setCell ((hxwi.alloc' _).below.grown hg10 (by rw [World.size_alloc];have:=hxwi.le;omega) (fun g e=>by have:=HMi.out.ql.block g e;have:=HBE.out;omega)) (by show w.heap.size≤B+1+1;have:=HBE.out;omega) _
     have HO11:=Lib.hid (show ∀ b,(Value.slice a6 (T.en k) c6).ownBlock=some b→b<wi.heap.size∧w4.heap.size≤b from fun b e=>⟨HOB.out b e,HQ.out.block b e⟩)
     have HALO:=Lib.hid (show ∀ b,(Value.slice al2 (k+1) cl2).ownBlock=some b→b<wr.heap.size∨wi.heap.size<b from fun b e=>by
      rcases ho10 with h | h
      ·rw [h] at e;exact .inl (HM.out.al b e).1
      ·rw [h,World.size_alloc] at e
       have:wi.heap.size+1=b:=by simpa using e
       exact .inr (by omega))
     clear hlow hw11 k10 hq10 hg10 ho10 l10 c10 f10 h1010 c4 l4
     obtain ⟨l11,c11,f11,k11⟩:=HK11.out.box
     have h1111:Ext w11 w11:=Ext.refl _
     go_upto_region 16 with (at_builtin;go_loud (refine wpList_append_que _ rfl _ _ 100 100 rfl (base:=B+1+1+1) (e:=77) (size:=1) q0 (.slice none 0 0) 24 Tryz.underlying100 hq0 hw0 hw1 hw2 rfl rfl (v:=.slice an k cn) (n:=k) (xs:=(List.range k).map NV) (HM11.out.qn.ext (Ext.alloc _ _)) (by rw [World.size_alloc];omega) (.slice (some ⟨w11.heap.size,0,none⟩) 1 1) 1 [.slice a6 (T.en k) c6] rfl (by exact Src.ofSlice _ Tryz.underlying100 ⟨w11.heap.size,0,none⟩ 1 1 _ rfl (news_ok w11 _ _) (by intro u hu;simp at hu;subst hu;rfl)) (by unfold maxLen;omega) (by omega) ?_;rintro v12 w12 hq12 hg12 ho12;obtain ⟨an2,cn2,rfl⟩:=hq12.slice;obtain ⟨l12,c12,f12,k12⟩:=(Hold.grownB (HK11.out.ext (Ext.alloc w11 (.cells #[.slice a6 (T.en k) c6] 77))) (by omega) hg12 (by rw [World.size_alloc];omega) (fun g e=>HM11.out.qn.block g e)).box;have h1212:Ext w12 w12:=Ext.refl _))
     refine setm1 (G:=fun x=>Code.wp _ _ _ _ x) ?_
     intro w13 hw13
     have HM13:=Lib.hid (show MkI T.toTr (B+1+1+1) (k+1) (k+1) (.slice al2 (k+1) cl2) (.slice an2 (k+1) cn2) (fun p=>if p=k then .slice a6 (T.en k) c6 else NV p) w13 from by
      rw [hw13]
      refine ((HM11.out.ext (Ext.alloc _ _)).pushN hg12 hq12 ho12 (Que.own_lt hq12 (by omega)) ((HQ11.out.mono (by have:=hx4.le;omega)).ext (Ext.alloc _ _)) (fun b e=>?_)).low _ _ (by show B+1+1<B+1+1+1;omega)
      have h1:=HO11.out b e
      refine ⟨by rw [World.size_alloc];omega,fun e2=>?_,fun e2=>?_⟩
      ·have h2:=HALO.out b e2
       have:=hx4.le
       omega
      ·have h2:=(HM.out.an b e2).1
       have:=hx4.le
       omega)
     have HK13:=Lib.hid (show Hold w13 (B+1+1) #[.slice al2 (k+1) cl2,.slice an2 (k+1) cn2] from by rw [hw13];exact Hold.set k12 1 _)
     have hlow:∀ {b:Nat} {c:Array Value},b<B+1+1→Hold w11 b c→Hold w13 b c:=fun hb h=>by
      rw [hw13]
      exact (Hold.grownB (h.ext (Ext.alloc _ _)) (B:=B+1+1+1) (by omega) hg12 (by rw [World.size_alloc];omega) (fun g e=>HM11.out.qn.block g e)).other _ _ (by show _≠B+1+1;omega)
     have HK23:=Lib.hid (And.intro (hlow (by omega) HK21.out.1) (hlow (by omega) HK21.out.2))
     have hxw13:Ext w w13:=by
      rw [hw13]
      exact Ext.setCell ((hxw11.alloc' _).below.grown hg12 (by rw [World.size_alloc];have:=hxw11.le;omega) (fun g e=>by have:=HM11.out.qn.block g e;have:=HBE.out;omega)) (by show w.heap.size≤B+1+1;have:=HBE.out;omega) _
     clear hlow hw13 k12 hq12 hg12 ho12 l12 c12 f12 h1212
     go_wp2_with fail
     go_roundg (T.n - (k+1))
     case rel=>exact ⟨k+1,_,_,_,by omega,rfl,by go_num,⟨HK23.out.1,HK23.out.2,HK13.out,HM13.out⟩,hxw13⟩
     case measure=>omega
  ·obtain rfl:k=T.n:=by omega
   obtain ⟨m2,d2',g2',k2⟩:=HI.out.h2.box
   go_wp2_with fail
   refine bodyPost_ret (kof_results _ _ (B+1) _ _ rfl ((Hold.set (Hold.set k2 0 _) 1 _).cell0 0) ((Hold.set (Hold.set k2 0 _) 1 _).cell0 1)) rfl ?_
   refine ⟨_,rfl,⟨_,_,NV,rfl,?_⟩,?_⟩
   ·exact ((HM.out.low _ _ (by show B+1<B+1+1+1;omega)).low _ _ (by show B+1<B+1+1+1;omega)).mono (by have:=HBE.out;omega)
   ·exact (hxw.setCell (by show w.heap.size≤B+1;have:=HBE.out;omega) _).setCell (by show w.heap.size≤B+1;have:=HBE.out;omega) _
theorem MkAt.ext {w w':World} {B:Nat} {T:Tr} {v:Value} (h:MkAt w B T v) (x:Ext w w'):MkAt w' B T v:=by
 obtain ⟨vl,vn,NV,hv,hm⟩:=h
 exact ⟨vl,vn,NV,hv,hm.ext x⟩
theorem MkI.len1 {T:Tr} {B:Nat} {vl vn:Value} {NV:Nat→Value} {w:World} (h:MkI T B T.n T.n vl vn NV w) {p:Nat} (hp:p<T.n):∃ gl ol cl,vl=.slice (some ⟨gl,ol,none⟩) T.n cl∧gl<w.heap.size∧w.cell? ⟨gl,ol+p,none⟩=some (.int .i64 (T.en p)):=by
 rcases h.ql.val with ⟨_,_,hn,_⟩ | ⟨gl,ol,cl,hv,_,h2,_,_,h5,_⟩
 ·omega
 ·refine ⟨gl,ol,cl,hv,h2,(h5 p (by omega)).trans (intCells_at ?_)⟩
  simp [lensL,hp]
theorem MkI.need1 {T : Tr} {B : Nat} {vl vn : Value} {NV : Nat → Value} {w : World} (h : MkI T B T.n T.n vl vn NV w) {p i : Nat} (hp : p < T.n) (hi : i < T.en p) : ∃ gn on cn gv ov cv, vn = .slice (some ⟨gn, on, none⟩) T.n cn ∧ gn < w.heap.size ∧ gv < w.heap.size ∧
    w.cell? ⟨gn,on+p,none⟩=some (.slice (some ⟨gv,ov,none⟩) (T.en p) cv)∧w.cell? ⟨gv,ov+i*2,none⟩=some (.int .i64 (T.need p i).1)∧w.cell? ⟨gv,ov+i*2+1,none⟩=some (.int .i64 (T.need p i).2):=by
 rcases h.qn.val with ⟨_,_,hn,_⟩ | ⟨gn,on,cn,hv,_,h2,_,_,h5,_⟩
 ·omega
 ·rcases (h.qv p hp).1.val with ⟨_,_,hn,_⟩ | ⟨gv,ov,cv,hv',_,k2,_,_,k5,_⟩
  ·omega
  ·have hl:i<(needL T p (T.en p)).length:=by rw [needL_len];exact hi
   have he:(needL T p (T.en p))[i]=T.need p i:=by simp [needL]
   refine ⟨gn,on,cn,gv,ov,cv,hv,h2,k2,(h5 p (by omega)).trans ?_,?_,?_⟩
   ·rw [List.getElem?_map,List.getElem?_range hp];exact congrArg some hv'
   ·rw [k5 (i*2) (by omega),evCells_get0 _ _ hl,he]
   ·rw [Nat.add_assoc,k5 (i*2+1) (by omega),evCells_get1 _ _ hl,he]
set_option maxHeartbeats 2000000 in
theorem krd_any (w : World) (T : Tr) (hV : T.Valid) (B : Nat) (mv : Value) (hM : MkAt w B T mv) (a : Option Addr) (g o cap : Nat) (c : Nat → Nat) (hC : NumAt w T.n a g o (natV c)) (hcut : T.CutOk c) (p : Nat) (hp : p < T.n) :
    Calls Tryz.prog 223 #[mv,.slice a T.n cap,.int .i64 p] w (BoolPost (T.On c p) w):=by
 have hn8:=hV.n8
 have hen:=hV.en64 hp
 obtain ⟨vl,vn,NV,rfl,hm⟩:=hM
 obtain ⟨gl,ol,cl,rfl,ll,l0⟩:=hm.len1 hp
 obtain ⟨rfl⟩:a=some ⟨g,o,none⟩:=hC.pa (by omega)
 obtain ⟨k,hk⟩:∃ k,k=c p:=⟨_,rfl⟩
 have hkl:k≤T.en p:=by rw [hk];exact hcut.le p hp
 obtain ⟨an,cn,hvn⟩:=hm.qn.slice
 have HM:=Lib.hid hm
 have HC:=Lib.hid hC
 have HV:=Lib.hid hV
 have HK:=Lib.hid hk
 have HVN:=Lib.hid hvn
 rw [hvn]
 have c0:∀ w',Ext w w'→w'.cell? ⟨g,o+p,none⟩=some (.int .i64 (k:Int)):=fun w' x=>by rw [hk];exact x.cell (hC.c p hp)
 have b0:∀ w',Ext w w'→g<w'.heap.size:=fun w' x=>Nat.lt_of_lt_of_le (hC.pb (by omega)) x.le
 have c1:∀ w',Ext w w'→w'.cell? ⟨gl,ol+p,none⟩=some (.int .i64 (T.en p)):=fun w' x=>x.cell l0
 have b1:∀ w',Ext w w'→gl<w'.heap.size:=fun w' x=>Nat.lt_of_lt_of_le ll x.le
 have hpn':(p:Int)<(T.n:Int):=by omega
 clear hV hC hm hk hvn l0 ll hcut
 go_enter Tryz.func223,Tryz.ntmps223
 go_upto_region 1 with fail
 refine boxed1 (w:=w) (G:=fun x=>Code.wp _ _ _ _ x) ?_
 intro w1 hx1 hs1 ⟨l0,k0,_,_⟩
 have hg0:∀ d os,Ext w (Sort.grow (redrawn w1 d) os):=fun d os=>hx1.trans (below_regrown w1 d os)
 have hg1:∀ d os,Ext w1 (Sort.grow (redrawn w1 d) os):=fun d os=>below_regrown w1 d os
 clear hs1
 by_cases hlt:k<T.en p
 ·have d0:((k:Int) == (T.en p:Int))=false:=by simp;omega
  refine wp_region_quiet_below (by kernel_rfl) (by kernel_rfl) ?_
  repeat (go_big_quiet_step (fail))
  refine wpQuiet_nil ?_
  intro _ hw'
  obtain ⟨⟨dq,osq⟩,hw''⟩:=hw'
  subst hw''
  have hx12:=hg1 dq osq
  clear hg0 hg1
  generalize Sort.grow (redrawn w1 dq) osq=w2 at hx12 ⊢
  have hxw2:=hx1.trans hx12
  have h22:Ext w2 w2:=Ext.refl _
  obtain ⟨gn,on,cn2,gv,ov,cv,hvn,ln,lv,n0,v0,v1⟩:=HM.out.need1 hp hlt
  obtain ⟨rfl,rfl⟩:an=some ⟨gn,on,none⟩∧cn=cn2:=by
   have h9:=HVN.out.symm.trans hvn
   simp only [Value.slice.injEq] at h9
   exact ⟨h9.1,h9.2.2⟩
  obtain ⟨⟨xi,y⟩,hny⟩:∃ z,z=T.need p k:=⟨_,rfl⟩
  rw [←hny] at v0 v1
  dsimp only at v0 v1
  obtain ⟨x,hxn,rfl,hon⟩:∃ x:Nat,x<T.n∧xi=(x:Int)∧(T.On c p↔y≤(c x:Int)):=by
   have hsv:=Tr.sndN_V (T:=T) (y:=(p,k)) ⟨hp,hlt⟩
   unfold Tr.On
   rw [←HK.out]
   unfold Tr.need at hny
   by_cases h3:T.kind p k=3
   ·rw [if_pos h3] at hny
    injection hny with e1 e2
    refine ⟨_,hsv.1,e1,?_⟩
    rw [e2]
    exact ⟨fun h=>by have:=h.2 h3;omega,fun h=>⟨hlt,fun _=>by omega⟩⟩
   ·rw [if_neg h3] at hny
    injection hny with e1 e2
    refine ⟨0,by omega,e1,?_⟩
    rw [e2]
    exact ⟨fun _=>by omega,fun _=>⟨hlt,fun h=>absurd h h3⟩⟩
  have HON:=Lib.hid hon
  obtain ⟨cx,hcx⟩:∃ z,z=c x:=⟨_,rfl⟩
  have HCX:=Lib.hid hcx
  have c2:∀ w',Ext w w'→w'.cell? ⟨g,o+x,none⟩=some (.int .i64 (cx:Int)):=fun w' h=>by rw [hcx];exact h.cell (HC.out.c x hxn)
  have n0':∀ w',Ext w w'→w'.cell? ⟨gn,on+p,none⟩=some (.slice (some ⟨gv,ov,none⟩) (T.en p) cv):=fun w' h=>h.cell n0
  have v0':∀ w',Ext w w'→w'.cell? ⟨gv,ov+k*2,none⟩=some (.int .i64 (x:Int)):=fun w' h=>h.cell v0
  have v1':∀ w',Ext w w'→w'.cell? ⟨gv,ov+k*2+1,none⟩=some (.int .i64 y):=fun w' h=>h.cell v1
  have b2:∀ w',Ext w w'→gn<w'.heap.size:=fun w' h=>Nat.lt_of_lt_of_le ln h.le
  have b3:∀ w',Ext w w'→gv<w'.heap.size:=fun w' h=>Nat.lt_of_lt_of_le lv h.le
  have hlt':(k:Int)<(T.en p:Int):=by omega
  have hxn':(x:Int)<(T.n:Int):=by omega
  clear hcx hon n0 v0 v1 ln lv hny hvn c1 b1
  go_upto_region 3 with fail
  refine wp_region_held_drew (S:=fun w'=>Ext w2 w') (by kernel_rfl) (Ext.refl _).drew (fun hHeld=>?_)
  refine hQ 0 (v:=?_) rfl (y:=.inl ⟨by rfl,?_⟩) (h:=?_)
  rotate_left
  ·(intro w' hSw;(try dsimp only at hSw);have hS0:=hxw2.trans hSw;have hS1:=hx12.trans hSw;have hSS:=Ext.refl w';go_simp;try with_reducible rfl)
  try simp only [Act.put,zA,zB,zC]
  refine hQ 1 (v:=?_) rfl (y:=.inl ⟨by rfl,?_⟩) (h:=?_)
  rotate_left
  ·(intro w' hSw;(try dsimp only at hSw);have hS0:=hxw2.trans hSw;have hS1:=hx12.trans hSw;have hSS:=Ext.refl w';go_simp;try with_reducible rfl)
  try simp only [Act.put,zA,zB,zC]
  refine hQ 2 (v:=?_) rfl (y:=.inl ⟨by rfl,?_⟩) (h:=?_)
  rotate_left
  ·(intro w' hSw;(try dsimp only at hSw);have hS0:=hxw2.trans hSw;have hS1:=hx12.trans hSw;have hSS:=Ext.refl w';go_simp;try with_reducible rfl)
  try simp only [Act.put,zA,zB,zC]
  refine hQ 3 (v:=?_) rfl (y:=.inl ⟨by rfl,?_⟩) (h:=?_)
  rotate_left
  ·(intro w' hSw;(try dsimp only at hSw);have hS0:=hxw2.trans hSw;have hS1:=hx12.trans hSw;have hSS:=Ext.refl w';go_simp;try with_reducible rfl)
  try simp only [Act.put,zA,zB,zC]
  refine hQ 4 (v:=?_) rfl (y:=.inl ⟨by rfl,?_⟩) (h:=?_)
  rotate_left
  ·(intro w' hSw;(try dsimp only at hSw);have hS0:=hxw2.trans hSw;have hS1:=hx12.trans hSw;have hSS:=Ext.refl w';go_simp;try with_reducible rfl)
  try simp only [Act.put,zA,zB,zC]
  refine hQ 5 (v:=?_) rfl (y:=.inl ⟨by rfl,?_⟩) (h:=?_)
  rotate_left
  ·(intro w' hSw;(try dsimp only at hSw);have hS0:=hxw2.trans hSw;have hS1:=hx12.trans hSw;have hSS:=Ext.refl w';go_simp;try with_reducible rfl)
  try simp only [Act.put,zA,zB,zC]
  refine hQ 6 (v:=?_) rfl (y:=.inl ⟨by rfl,?_⟩) (h:=?_)
  rotate_left
  ·(intro w' hSw;(try dsimp only at hSw);have hS0:=hxw2.trans hSw;have hS1:=hx12.trans hSw;have hSS:=Ext.refl w';go_simp;try with_reducible rfl)
  try simp only [Act.put,zA,zB,zC]
  refine hQ 7 (v:=?_) rfl (y:=.inl ⟨by rfl,?_⟩) (h:=?_)
  rotate_left
  ·(intro w' hSw;(try dsimp only at hSw);have hS0:=hxw2.trans hSw;have hS1:=hx12.trans hSw;have hSS:=Ext.refl w';go_simp;try with_reducible rfl)
  try simp only [Act.put,zA,zB,zC]
  refine hQ 8 (v:=?_) rfl (y:=.inl ⟨by rfl,?_⟩) (h:=?_)
  rotate_left
  ·(intro w' hSw;(try dsimp only at hSw);have hS0:=hxw2.trans hSw;have hS1:=hx12.trans hSw;have hSS:=Ext.refl w';go_simp;try with_reducible rfl)
  try simp only [Act.put,zA,zB,zC]
  refine hQ 9 (v:=?_) rfl (y:=.inl ⟨by rfl,?_⟩) (h:=?_)
  rotate_left
  ·(intro w' hSw;(try dsimp only at hSw);have hS0:=hxw2.trans hSw;have hS1:=hx12.trans hSw;have hSS:=Ext.refl w';go_simp;try with_reducible rfl)
  try simp only [Act.put,zA,zB,zC]
  refine hQ 10 (v:=?_) rfl (y:=.inl ⟨by rfl,?_⟩) (h:=?_)
  rotate_left
  ·(intro w' hSw;(try dsimp only at hSw);have hS0:=hxw2.trans hSw;have hS1:=hx12.trans hSw;have hSS:=Ext.refl w';go_simp;try with_reducible rfl)
  try simp only [Act.put,zA,zB,zC]
  refine wpAnyH_ready (rs:=[11]) (by kernel_rfl) (by simp) ?_
  refine AllReadyH.cons rfl (fun K hK=>?_) AllReadyH.nil
  go_simp
  refine hK.out _ _ ?_ (fun hHeld2=>?_)
  ·exact (Ext.alloc _ _).drew
  clear hK K
  try simp only [Act.put,zA,zB,zC]
  clear hHeld hHeld2
  refine boxdr1 (w:=w2) (G:=fun x=>wpAnyH Tryz.prog Region.Mode.any _ _ _ _ _ _ x) ?_
  intro w3 hx3 hs3 ⟨l3,k3,f3,kk3⟩
  have h33:Ext w3 w3:=Ext.refl _
  refine wpAnyH_ready (rs:=[12]) (by kernel_rfl) (by simp) ?_
  refine AllReadyH.cons rfl (fun K hK=>?_) AllReadyH.nil
  go_simp
  refine hK.out _ _ ?_ (fun hHeld2=>?_)
  ·exact (hx3.setCell (p:=⟨w2.heap.size,0,none⟩) (Nat.le_refl _) _).setCell (p:=⟨w2.heap.size,1,none⟩) (Nat.le_refl _) _
  clear hK K
  try simp only [Act.put,zA,zB,zC]
  clear hHeld2
  refine wpAnyH_done (by kernel_rfl) ?_ _
  refine setm2 (G:=fun x=>Exit.then _ _ _ _ x) ?_
  intro w4 hw4
  have hx24:Ext w2 w4:=by rw [hw4];exact (hx3.setCell (p:=⟨w2.heap.size,0,none⟩) (Nat.le_refl _) _).setCell (p:=⟨w2.heap.size,1,none⟩) (Nat.le_refl _) _
  obtain ⟨l5,c5,_,_⟩:=(show Hold w4 w2.heap.size #[.int .i64 x,.int .i64 y] from by rw [hw4];exact (Hold.set kk3 0 _).set 1 _).box
  have hg0:∀ d os,Ext w (Sort.grow (redrawn w4 d) os):=fun d os=>(hxw2.trans hx24).trans (below_regrown w4 d os)
  have hg4:∀ d os,Ext w4 (Sort.grow (redrawn w4 d) os):=fun d os=>below_regrown w4 d os
  clear hw4 l3 k3 f3 kk3 h33 hx3 hs3 l0 k0
  go_upto_region 4 with fail
  by_cases hle:y≤(cx:Int)
  ·have d1:decide (y≤(cx:Int))=true:=decide_eq_true hle
   have HYES:=Lib.hid (HON.out.2 (by rw [←HCX.out];exact hle))
   refine wp_region_quiet_below (by kernel_rfl) (by kernel_rfl) ?_
   repeat (go_big_quiet_step (fail))
   refine wpQuiet_nil ?_
   intro _ hw'
   obtain ⟨⟨dq,osq⟩,hw''⟩:=hw'
   subst hw''
   have hxw6:=hg0 dq osq
   clear hg0 hg4
   generalize Sort.grow (redrawn w4 dq) osq=w6 at hxw6 ⊢
   go_wp2_with fail
   go_ret
   exact ⟨_,rfl,⟨fun _=>HYES.out,fun _=>rfl⟩,hxw6⟩
  ·have d1:decide (y≤(cx:Int))=false:=decide_eq_false hle
   have HNO:=Lib.hid (show ¬T.On c p from fun h=>hle (by rw [HCX.out];exact HON.out.1 h))
   refine wp_region_quiet_below (by kernel_rfl) (by kernel_rfl) ?_
   repeat (go_big_quiet_step (fail))
   refine wpQuiet_nil ?_
   intro _ hw'
   obtain ⟨⟨dq,osq⟩,hw''⟩:=hw'
   subst hw''
   have hxw6:=hg0 dq osq
   clear hg0 hg4
   generalize Sort.grow (redrawn w4 dq) osq=w6 at hxw6 ⊢
   go_wp2_with fail
   go_ret
   exact ⟨_,rfl,⟨fun h=>(by cases h),fun h=>absurd h HNO.out⟩,hxw6⟩
 ·obtain rfl:k=T.en p:=by omega
  have HNO:=Lib.hid (show ¬T.On c p from fun h=>by have:=h.1;have:=HK.out;omega)
  refine wp_region_quiet_below (by kernel_rfl) (by kernel_rfl) ?_
  repeat (go_big_quiet_step (fail))
  refine wpQuiet_nil ?_
  intro _ hw'
  obtain ⟨⟨dq,osq⟩,hw''⟩:=hw'
  subst hw''
  have hxw2:=hg0 dq osq
  clear hg0 hg1
  generalize Sort.grow (redrawn w1 dq) osq=w2 at hxw2 ⊢
  go_wp2_with fail
  go_ret
  exact ⟨_,rfl,⟨fun h=>(by cases h),fun h=>absurd h HNO.out⟩,hxw2⟩
set_option maxHeartbeats 1000000 in
theorem clonen_any (w : World) (g o n cap : Nat) (v : Nat → Int) (h : NumAt w n (some ⟨g, o, none⟩) g o v) (hl : n ≤ 1000) (h0 : 0 < n) :
    Calls Tryz.prog 224 #[.slice (some ⟨g,o,none⟩) n cap] w fun e w'=>∃ g5 o5 c5,e=.returned (.slice (some ⟨g5,o5,none⟩) n c5)∧w.heap.size≤g5∧g5<w'.heap.size∧(∀ j,j<n→w'.cell? ⟨g5,o5+j,none⟩=some (.int .i64 (v j))∧w'.frozen? ⟨g5,o5+j,none⟩=false)∧Ext w w':=by
 obtain ⟨j0,hj0,hy0,hy1,hy2⟩:=info_parts infoInt
 have hnl:∀ (W:World) (a:Option Addr) (n c n' c':Nat),(binOp .eql 25 (.slice a n c) (.slice none n' c')).run Tryz.prog W=.ok (.bool a.isNone) W:=fun W a n c n' c'=>Lib.run_eql_slice_nil W _ _ a n c n' c' Tryz.underlying25
 have HC:=Lib.hid h
 clear h
 go_enter Tryz.func224,Tryz.ntmps224
 go_wp2_with (at_builtin;refine wpList_append_que _ rfl _ _ 25 25 rfl (base:=w.heap.size) (e:=3) (size:=1) j0 (.int .i64 0) 8 Tryz.underlying25 hj0 hy0 hy1 hy2 rfl rfl (v:=.slice (some ⟨w.heap.size,0,none⟩) 0 0) (n:=0) (xs:=[]) ⟨rfl,.inl ⟨_,rfl,rfl,fun a e=>by cases e;exact Nat.le_refl _⟩⟩ (by simp) (.slice (some ⟨g,o,none⟩) n cap) n (intCells (rowL v n)) rfl ((HC.out.ext (Ext.alloc _ _)).src cap) (by unfold maxLen;omega) (by omega) ?_;rintro v5 w5 hq5 hg5 -;rw [Nat.zero_add,List.nil_append] at hq5;have H5:=Lib.hid (And.intro hq5 hg5);clear hq5 hg5)
 have hx5:Ext w w5:=((Below.refl _ w).alloc (Nat.le_refl _) _).grown H5.out.2 (by simp) (by intro k hk;simp [Value.ownBlock] at hk;omega)
 rcases H5.out.1.val with ⟨_,_,hn0,_⟩ | ⟨g5,o5,c5,rfl,q1,q2,q3,q4,q5,q6⟩
 ·omega
 go_ret
 exact ⟨g5,o5,c5,rfl,q1,q2,fun j hj=>⟨(q5 j (by omega)).trans (rowL_get v hj),(q6 j (by omega)).2⟩,hx5⟩
end Go.Proofs.YtmhapcnlpoilpaaGreatDoor
