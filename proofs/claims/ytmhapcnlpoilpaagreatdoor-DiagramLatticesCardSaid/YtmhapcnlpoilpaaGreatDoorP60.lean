/- Contracts and laws in plain Lean for RApp: group P60. -/
import Derived.Test.YtmhapcnlpoilpaaGreatDoorP01
import Derived.Shelf.SlLaysF
import Derived.Test.YtmhapcnlpoilpaaGreatDoorP40
import Derived.Shelf.SlSortCmp.NoneTotal
import Derived.Test.YtmhapcnlpoilpaaGreatDoorP42
namespace Go.Proofs.YtmhapcnlpoilpaaGreatDoor
open Go.Shelf Go.Proofs
def sortRow_ren:Go.Shelf.Ren:=⟨fun | 6=>225 | 15=>234 | 14=>233 | 28=>244 | 29=>219 | 20=>236 | 21=>237 | 22=>238 | 23=>239 | 24=>240 | 25=>241 | 26=>242 | 27=>243 | 46=>245 | 47=>246 | 48=>247 | 49=>248 | 50=>249 | 57=>250 | n=>n,fun | 22=>28 | 24=>25 | 25=>189 | 3=>3 | 39=>184 | 0=>0 | 53=>218 | 55=>231 | 4=>4 | 46=>265 | 45=>264 | 50=>123 | 5=>5 | 9=>9 | 66=>270 | 70=>274 | 76=>276 | 77=>277 | n=>n,fun | n=>n⟩
theorem sortRow:Go.Proofs.SlLaysF.n6 Tryz.prog sortRow_ren:={
 mixed:=by kernel_rfl
 f6:=⟨Tryz.f225.name,by decide,Tryz.func225.trans (congrArg some (by kernel_rfl))⟩
 f14:=⟨Tryz.f233.name,by decide,Tryz.func233.trans (congrArg some (by kernel_rfl))⟩
 f15:=Tryz.func234.trans (congrArg some (by kernel_rfl))
 f20:=⟨Tryz.f236.name,by decide,Tryz.func236.trans (congrArg some (by kernel_rfl))⟩
 f21:=⟨Tryz.f237.name,by decide,Tryz.func237.trans (congrArg some (by kernel_rfl))⟩
 f22:=⟨Tryz.f238.name,by decide,Tryz.func238.trans (congrArg some (by kernel_rfl))⟩
 f23:=⟨Tryz.f239.name,by decide,Tryz.func239.trans (congrArg some (by kernel_rfl))⟩
 f24:=⟨Tryz.f240.name,by decide,Tryz.func240.trans (congrArg some (by kernel_rfl))⟩
 f25:=⟨Tryz.f241.name,by decide,Tryz.func241.trans (congrArg some (by kernel_rfl))⟩
 f26:=⟨Tryz.f242.name,by decide,Tryz.func242.trans (congrArg some (by kernel_rfl))⟩
 f27:=⟨Tryz.f243.name,by decide,Tryz.func243.trans (congrArg some (by kernel_rfl))⟩
 f28:=Tryz.func244.trans (congrArg some (by kernel_rfl))
 f29:=Tryz.func219.trans (congrArg some (by kernel_rfl))
 f46:=⟨Tryz.f245.name,by decide,Tryz.func245.trans (congrArg some (by kernel_rfl))⟩
 f47:=Tryz.func246.trans (congrArg some (by kernel_rfl))
 f48:=Tryz.func247.trans (congrArg some (by kernel_rfl))
 f49:=⟨Tryz.f248.name,by decide,Tryz.func248.trans (congrArg some (by kernel_rfl))⟩
 f50:=⟨Tryz.f249.name,by decide,Tryz.func249.trans (congrArg some (by kernel_rfl))⟩
 f57:=⟨Tryz.f250.name,by decide,Tryz.func250.trans (congrArg some (by kernel_rfl))⟩
 t0:=Tryz.underlying0
 a0:=Tryz.isAgg0
 z0:=Tryz.sizeOf0
 v0:=Tryz.zeroValue0
 t3:=Tryz.underlying3
 a3:=Tryz.isAgg3
 z3:=Tryz.sizeOf3
 v3:=Tryz.zeroValue3
 t4:=Tryz.underlying4
 a4:=Tryz.isAgg4
 z4:=Tryz.sizeOf4
 v4:=Tryz.zeroValue4
 t5:=Tryz.underlying5
 a5:=Tryz.isAgg5
 z5:=Tryz.sizeOf5
 v5:=Tryz.zeroValue5
 t9:=Tryz.underlying9
 a9:=Tryz.isAgg9
 z9:=Tryz.sizeOf9
 v9:=Tryz.zeroValue9
 t22:=Tryz.underlying28
 a22:=Tryz.isAgg28
 z22:=Tryz.sizeOf28
 v22:=Tryz.zeroValue28
 a24:=Tryz.isAgg25
 z24:=Tryz.sizeOf25
 t25:=Tryz.underlying189
 a25:=Tryz.isAgg189
 z25:=Tryz.sizeOf189
 v25:=Tryz.zeroValue189
 t39:=Tryz.underlying184
 a39:=Tryz.isAgg184
 z39:=Tryz.sizeOf184
 v39:=Tryz.zeroValue184
 t45:=Tryz.underlying264
 a45:=Tryz.isAgg264
 z45:=Tryz.sizeOf264
 v45:=Tryz.zeroValue264
 t46:=Tryz.underlying265
 a46:=Tryz.isAgg265
 z46:=Tryz.sizeOf265
 v46:=Tryz.zeroValue265
 t50:=Tryz.underlying123
 a50:=Tryz.isAgg123
 z50:=Tryz.sizeOf123
 v50:=Tryz.zeroValue123
 t53:=Tryz.underlying218
 a53:=Tryz.isAgg218
 z53:=Tryz.sizeOf218
 v53:=Tryz.zeroValue218
 t55:=Tryz.underlying231
 a55:=Tryz.isAgg231
 z55:=Tryz.sizeOf231
 v55:=Tryz.zeroValue231
 t66:=Tryz.underlying270
 a66:=Tryz.isAgg270
 z66:=Tryz.sizeOf270
 v66:=Tryz.zeroValue270
 t70:=Tryz.underlying274
 a70:=Tryz.isAgg274
 z70:=Tryz.sizeOf274
 v70:=Tryz.zeroValue274
 t76:=Tryz.underlying276
 a76:=Tryz.isAgg276
 z76:=Tryz.sizeOf276
 v76:=Tryz.zeroValue276
 t77:=Tryz.underlying277
 a77:=Tryz.isAgg277
 z77:=Tryz.sizeOf277
 v77:=Tryz.zeroValue277 }
end Go.Proofs.YtmhapcnlpoilpaaGreatDoor

namespace Go.Proofs.YtmhapcnlpoilpaaGreatDoor
open Go.RowKit Go.Shelf Go.Proofs
theorem heap_sortWorld {α:Type} [Inhabited α] (enc:α→Value) (w:World) (blk off m:Nat) (d:Array α) (os:Array Obj) (b:Nat) (hb:b<w.heap.size) (hne:b≠blk):(sortWorld enc w blk off m d os).heap[b]?=w.heap[b]?:=by
 unfold sortWorld
 rw [Sort.heap_grow_old _ _ (by rw [Sort.size_putRow];exact hb)]
 unfold Sort.putRow Sort.mapBlock
 rw [Array.getElem?_modify,if_neg (by omega)]
 rfl
theorem size_sortWorld {α:Type} [Inhabited α] (enc:α→Value) (w:World) (blk off m:Nat) (d:Array α) (os:Array Obj):w.heap.size≤(sortWorld enc w blk off m d os).heap.size:=by
 unfold sortWorld
 rw [Sort.size_grow,Sort.size_putRow]
 exact Nat.le_add_right _ _
theorem swoRow {n:Nat} {R:List Row}:Sort.SWO (ltOf fun a b:{r:Row // r∈R}=>cmpN n (fn a.1.l) (fn b.1.l)):=by
 have key:∀ a b:{r:Row // r∈R},ltOf (fun a b:{r:Row // r∈R}=>cmpN n (fn a.1.l) (fn b.1.l)) a b=true↔lexP n (fn a.1.l) (fn b.1.l):=fun a b=>by
  unfold ltOf
  rw [decide_eq_true_iff];exact cmpN_neg
 have keyf:∀ a b:{r:Row // r∈R},ltOf (fun a b:{r:Row // r∈R}=>cmpN n (fn a.1.l) (fn b.1.l)) a b=false↔¬lexP n (fn a.1.l) (fn b.1.l):=fun a b=>by
  rw [←key,Bool.not_eq_true]
 refine ⟨fun x=>(keyf x x).2 (lexP_irrefl _ _),fun x y z h k=>(key x z).2 (lexP_trans ((key x y).1 h) ((key y z).1 k)),fun x y z h k=>(keyf x z).2 fun hl=>?_⟩
 have h1:=(keyf x y).1 h
 have h2:=(keyf y z).1 k
 by_cases e:∀ q,q<n→fn y.1.l q=fn z.1.l q
 ·obtain ⟨p,hp,k1,k2⟩:=hl
  exact h1 ⟨p,hp,fun q hq=>(k1 q hq).trans (e q (by omega)).symm,by rw [e p hp];exact k2⟩
 ·rcases lexP_total e with h3 | h3
  ·exact h2 h3
  ·exact h1 (lexP_trans hl h3)
theorem rsort_rows {w : World} {base : Nat} {v : Value} {R : List Row} {n : Nat} (hq : RowsQ w base v R) (hB : base ≤ w.heap.size) (hl : R.length ≤ 1000000) (hn : ∀ x ∈ R, x.l.length = n) (h0 : 0 < n) (ha : ∀ x ∈ R, v.ownBlock ≠ some x.g) (g : Nat)
    (eg:∀ args w,(callFunc g args).run Tryz.prog w=.ok (.enter g args) w)
    (hc:∀ (W:World) (r s:Row),r∈R→s∈R→r.At W→s.At W→Calls Tryz.prog g #[r.val,s.val] W fun e w'=>e=.returned (.int .i64 (cmpN n (fn r.l) (fn s.l)))∧W=w') :
    Calls Tryz.prog 225 #[v,.func (.func g) #[] #[]] w fun e w'=>e=.returned (.tuple #[])∧∃ R':List Row,R'.Perm R∧R'.Pairwise (fun a b=>¬lexP n (fn b.l) (fn a.l))∧OnlyIn w w' base v∧RowsH w' base v R':=by
 rcases hq.1.val with ⟨ao,rfl,hn0,_⟩ | ⟨blk,off,cap,rfl,b1,b2,b3,b4,b5,b6⟩
 ·refine (AnyF.slices_SortFunc_none (P:=Tryz.prog) (ρ:=sortRow_ren) { sortRow with } ao 0 (.func (.func g) #[] #[]) w).mono fun e w' ⟨he,hw⟩=>?_
  subst hw
  obtain rfl:R=[]:=List.eq_nil_of_length_eq_zero hn0
  exact ⟨he,[],List.Perm.refl _,List.Pairwise.nil,OnlyIn.refl _ _ _,.inl ⟨rfl,ao,0,rfl⟩⟩
 ·by_cases hR0:R=[]
  ·subst hR0
   refine (AnyF.slices_SortFunc_none (P:=Tryz.prog) (ρ:=sortRow_ren) { sortRow with } (some ⟨blk,off,none⟩) cap (.func (.func g) #[] #[]) w).mono fun e w' ⟨he,hw⟩=>?_
   subst hw
   exact ⟨he,[],List.Perm.refl _,List.Pairwise.nil,OnlyIn.refl _ _ _,.inl ⟨rfl,_,cap,rfl⟩⟩
  have hR1:0<R.length:=List.length_pos_iff.2 hR0
  letI:Inhabited {r:Row // r∈R}:=⟨⟨R[0],List.getElem_mem hR1⟩⟩
  have hH:Sort.Holds (fun r:{r:Row // r∈R}=>r.1.val) w blk off R.attach.toArray:=by
   intro j hj
   have hj':j<R.length:=by simpa using hj
   refine ⟨?_,(b6 j (by omega)).2⟩
   rw [b5 j (by omega),List.getElem?_map,List.getElem?_eq_getElem hj',getElem!_pos R.attach.toArray j hj]
   simp
  have hcall:=Any.slices_SortFunc sortRow (fun r:{r:Row // r∈R}=>r.1.val) (fun _=>rfl) (fun a b=>cmpN n (fn a.1.l) (fn b.1.l)) swoRow g #[] blk off cap R.attach.toArray w eg (fun m os dk hs x y=>by
   have hrow:∀ z:{r:Row // r∈R},z.1.At (sortWorld (fun r:{r:Row // r∈R}=>r.1.val) w blk off m dk os):=fun z=>
    NumAt.blk (hq.2 z.1 z.2) (heap_sortWorld _ _ _ _ _ _ _ _ (NumAt.pb (hq.2 z.1 z.2) (by rw [hn z.1 z.2];exact h0)) (fun e=>ha z.1 z.2 (by rw [e];rfl))) (size_sortWorld _ _ _ _ _ _ _)
   refine (hc _ x.1 y.1 x.2 y.2 (hrow x) (hrow y)).mono fun e w' ⟨he,hw⟩=>⟨he,0,#[],?_⟩
   rw [←hw,Sort.grow_empty];rfl) hH b2 (by simp;omega)
  have e:(Value.slice (some ⟨blk,off,none⟩) R.attach.toArray.size cap)=.slice (some ⟨blk,off,none⟩) R.length cap:=by simp
  rw [e] at hcall
  refine hcall.mono fun e w' ⟨he,d',m,os,hp,hs,hw⟩=>?_
  obtain ⟨hsz,_,hperm⟩:=hp
  have hsz':d'.size=R.length:=by rw [hsz];simp
  have hperm':d'.toList.Perm R.attach:=by
   have e1:d'.extract 0 R.attach.toArray.size=d':=by rw [←hsz];simp
   have e2:R.attach.toArray.extract 0 R.attach.toArray.size=R.attach.toArray:=by
    simp only [List.size_toArray,List.length_attach,List.extract_toArray,List.extract_eq_take_drop,List.drop_zero,Nat.sub_zero]
    rw [List.take_of_length_le (by simp)]
   rw [e1,e2] at hperm
   simpa using hperm
  have hlen:(d'.toList.map Subtype.val).length=R.length:=by simpa using hsz'
  refine ⟨he,d'.toList.map Subtype.val,?_,?_,⟨?_,fun b hb hne=>by rw [hw];exact heap_sortWorld _ _ _ _ _ _ _ _ hb fun e=>hne (by rw [e];rfl),by rw [hw];exact size_sortWorld _ _ _ _ _ _ _⟩,.inr ⟨blk,off,cap,by rw [hlen],by rw [hlen];exact b3,b1,by rw [hw];exact Nat.lt_of_lt_of_le b2 (size_sortWorld _ _ _ _ _ _ _),fun j hj=>?_⟩⟩
  ·have h1:=hperm'.map Subtype.val
   rwa [List.attach_map_subtype_val] at h1
  ·rw [List.pairwise_map,List.pairwise_iff_getElem]
   intro i j hi hj hij
   have h1:=hs i j (Nat.zero_le _) hij (by rw [←hsz];simpa using hj)
   rw [getElem!_pos d' j (by simpa using hj),getElem!_pos d' i (by simpa using hi)] at h1
   intro hlx
   have h2:ltOf (fun a b:{r:Row // r∈R}=>cmpN n (fn a.1.l) (fn b.1.l)) d'[j] d'[i]=true:=by
    unfold ltOf
    rw [decide_eq_true_iff]
    exact cmpN_neg.2 (by simpa using hlx)
   rw [h2] at h1
   cases h1
  ·rw [hw]
   exact ⟨rfl,rfl,rfl,size_sortWorld _ _ _ _ _ _ _,fun b hb=>heap_sortWorld _ _ _ _ _ _ _ _ (by omega) (by omega)⟩
  ·have hj':j<d'.size:=by simpa using hj
   have hh:=holds_sortWorld (fun r:{r:Row // r∈R}=>r.1.val) w blk off m R.attach.toArray d' os b2 hH hsz j hj'
   rw [←hw] at hh
   refine ⟨?_,hh.2⟩
   rw [hh.1,getElem!_pos d' j hj']
   simp
end Go.Proofs.YtmhapcnlpoilpaaGreatDoor

namespace Go.Proofs.YtmhapcnlpoilpaaGreatDoor
open Go.RowKit Go.Shelf
noncomputable def Tr.nexts (T:Tr) (L:List (List Nat)):List (List Nat):=L.flatMap T.nextOf
noncomputable def Tr.part (T:Tr) (l:List Nat) (p:Nat):List (List Nat):=(T.onL (fn l) p).map fun p=>rowOf T.n (upC (fn l) p)
theorem part_all (T:Tr) (l:List Nat):T.part l T.n=T.nextOf l:=rfl
theorem nexts_len (T:Tr):∀ L:List (List Nat),(T.nexts L).length≤T.n*L.length
 | [] => by simp [Tr.nexts]
 | l :: L => by
  have h1:=nexts_len T L
  have h2:(T.nextOf l).length≤T.n:=by unfold Tr.nextOf;rw [List.length_map];exact T.onL_len _ _
  have e:T.nexts (l :: L)=T.nextOf l++T.nexts L:=by simp [Tr.nexts]
  rw [e,List.length_append,List.length_cons,Nat.mul_add];omega
theorem nexts_take {T:Tr} {R:List Row} {k:Nat} (hk:k<R.length):T.nexts ((R.take (k+1)).map Row.l)=T.nexts ((R.take k).map Row.l)++T.nextOf R[k].l:=by
 rw [List.take_add_one,List.getElem?_eq_getElem hk,List.map_append];unfold Tr.nexts;rw [List.flatMap_append];simp
structure NxI (T:Tr) (w1:World) (v:Value) (RN:List Row) (L:List (List Nat)) (wr:World):Prop where
 q:RowsQ wr w1.heap.size v RN
 m:RN.map Row.l=L
 a:∀ x∈RN,v.ownBlock≠some x.g∧w1.heap.size≤x.g
 b:∀ b,v.ownBlock=some b→b<wr.heap.size
 x:Ext w1 wr
theorem NxI.ext {T:Tr} {w1:World} {v:Value} {RN:List Row} {L:List (List Nat)} {wr w':World} (h:NxI T w1 v RN L wr) (x:Ext wr w'):NxI T w1 v RN L w':=
 ⟨h.q.ext x,h.m,h.a,fun b e=>Nat.lt_of_lt_of_le (h.b b e) x.le,h.x.trans x⟩
theorem NxI.like {T:Tr} {w1:World} {v:Value} {RN:List Row} {L L':List (List Nat)} {wr:World} (h:NxI T w1 v RN L wr) (e:L=L'):NxI T w1 v RN L' wr:=e▸h
theorem NxI.add {T:Tr} {w1:World} {v v':Value} {RN:List Row} {L:List (List Nat)} {W w':World} {r:Row} (h:NxI T w1 v RN L W) (hr:r.At W) (hp:∀ x∈RN++[r],0<x.l.length) (hg:w1.heap.size≤r.g) (hv:v.ownBlock≠some r.g) (hq:Que w' w1.heap.size 1 v' (RN.length+1) (RN.map Row.val++[r.val])) (hgr:W.grownBy w' v.ownBlock) (ho:v'.ownBlock=v.ownBlock∨v'.ownBlock=some W.heap.size):NxI T w1 v' (RN++[r]) (L++[r.l]) w':=by
 have ha:∀ x∈RN++[r],v.ownBlock≠some x.g∧w1.heap.size≤x.g:=fun x hx=>by
  rcases List.mem_append.1 hx with h1 | h1
  ·exact h.a x h1
  ·obtain rfl:=List.mem_singleton.1 h1;exact ⟨hv,hg⟩
 have hA:∀ x∈RN++[r],x.At W:=fun x hx=>(List.mem_append.1 hx).elim (h.q.2 x) fun h1=>by obtain rfl:=List.mem_singleton.1 h1;exact hr
 refine ⟨RowsQ.app h.q (fun x hx=>by obtain rfl:=List.mem_singleton.1 hx;exact hr) hp (fun x hx=>(ha x hx).1) hq hgr,by rw [List.map_append,h.m];rfl,fun x hx=>⟨RowsQ.app_apart hA hp (fun x hx=>(ha x hx).1) ho x hx,(ha x hx).2⟩,Que.own_lt hq (Nat.succ_pos _),h.x.below.grown hgr h.x.le (fun g e=>h.q.1.block g e)⟩
def KnextPost (T:Tr) (R:List Row) (w:World) (e:Ending) (w':World):Prop:=Ext w w'∧∃ v R',e=.returned v∧RowsH w' w.heap.size v R'∧(∀ x∈R',x.At w'∧w.heap.size≤x.g)∧R'.length≤8*R.length∧R'.Pairwise (fun a b=>lexP T.n (fn a.l) (fn b.l))∧∀ l,(∃ x∈R',x.l=l)↔∃ a∈R,l∈T.nextOf a.l
set_option maxRecDepth 100000 in
set_option maxHeartbeats 4000000 in
theorem knext_any (w : World) (T : Tr) (hV : T.Valid) (B : Nat) (mv : Value) (hM : MkAt w B T mv) (B2 : Nat) (v : Value) (R : List Row) (hR : RowsH w B2 v R) (hA : ∀ x ∈ R, x.At w ∧ CutL T x.l) (hl : R.length ≤ 5000) :
    Calls Tryz.prog 204 #[mv,v] w (KnextPost T R w):=by
 obtain ⟨j0,hj0,hy0,hy1,hy2⟩:=info_parts infoInts1
 have hn8:=hV.n8
 have hn1:=hV.n1
 have HA:=Lib.hid hA
 have HV:=Lib.hid hV
 have HM:=Lib.hid hM
 unfold KnextPost
 obtain ⟨va,vc,gb,go',hv,hc0⟩:∃ va vc gb go',v=.slice va R.length vc∧(0<R.length→va=some ⟨gb,go',none⟩∧gb<w.heap.size∧∀ j (hj:j<R.length),w.cell? ⟨gb,go'+j,none⟩=some R[j].val):=by
  rcases hR with ⟨rfl,a,c,rfl⟩ | ⟨g,off,cap,rfl,_,_,h2,h3⟩
  ·exact ⟨a,c,0,0,rfl,fun h=>absurd h (Nat.lt_irrefl _)⟩
  ·exact ⟨_,_,g,off,rfl,fun _=>⟨rfl,h2,fun j hj=>(h3 j hj).1⟩⟩
 subst hv
 have HC:=Lib.hid hc0
 clear hc0
 obtain ⟨vl,vn,NV,rfl,_⟩:=hM
 obtain ⟨ln,hln⟩:∃ z,z=R.length:=⟨_,rfl⟩
 have HLN:=Lib.hid hln
 rw [←hln] at hl ⊢
 obtain ⟨al,cl,hal⟩:∃ a c,vl=.slice a T.n c:=by obtain ⟨_,_,NV',h9,h8⟩:=HM.out;injection h9 with h9;injection h9 with h9;injection h9 with h9 h7;injection h7 with h7;subst h9 h7;exact h8.ql.slice
 obtain ⟨an,cn,han⟩:∃ a c,vn=.slice a T.n c:=by obtain ⟨_,_,NV',h9,h8⟩:=HM.out;injection h9 with h9;injection h9 with h9;injection h9 with h9 h7;injection h7 with h7;subst h9 h7;exact h8.qn.slice
 subst hal han
 clear hA hV hR hln
 go_enter Tryz.func204,Tryz.ntmps204
 go_upto_region 1 with fail
 refine boxed1 (w:=w) (G:=fun x=>Code.wp _ _ _ _ x) ?_
 intro w1 hx1 hs1 ⟨l0,c0,_,_⟩
 have hx11:Ext w1 w1:=Ext.refl _
 clear hs1
 go_wp2_with fail
 go_loopg [5,12] ln (fun gg v5 v12 wr=>∃ (k:Nat) (RN:List Row),k≤ln∧gg=ln - k∧v12=.int .i64 k∧NxI T w1 v5 RN (T.nexts ((R.take k).map Row.l)) wr)
 case atStart=>exact ⟨0,[],by omega,rfl,rfl,⟨RowsQ.nil _ _,rfl,fun x h=>(by cases h),fun b h=>(by cases h),hx11⟩⟩
 case round=>
  obtain ⟨k,RN,hk,rfl,rfl,hN⟩:=hrel
  obtain ⟨a5,c5,rfl⟩:=hN.q.1.slice
  have hxr:=hN.x
  have hxw:=hx1.trans hxr
  have HN:=Lib.hid hN
  have HLM:=Lib.hid (show RN.length≤8*k from by
   have h1:=congrArg List.length hN.m
   have h2:=nexts_len T ((R.take k).map Row.l)
   have h3:T.n*((R.take k).map Row.l).length≤8*k:=by
    refine Nat.le_trans (Nat.mul_le_mul_right _ hn8) (Nat.mul_le_mul_left _ ?_)
    rw [List.length_map,List.length_take];omega
   rw [List.length_map] at h1;omega)
  obtain ⟨lm,hlm⟩:∃ z,z=RN.length:=⟨_,rfl⟩
  have hlm8:lm≤8*k:=by rw [hlm];exact HLM.out
  have HLE:=Lib.hid hlm
  rw [←hlm] at HN ⊢
  clear hN hlm hx11
  by_cases hlt:k<ln
  ·have hlt':(k:Int)<(ln:Int):=by omega
   have hkR:k<R.length:=by rw [←HLN.out];exact hlt
   have HCC:=Lib.hid (HC.out (by omega))
   obtain rfl:=HCC.out.1
   have HRA:=Lib.hid (HA.out R[k] (List.getElem_mem hkR))
   obtain ⟨r,hr⟩:∃ r,r=R[k]:=⟨_,rfl⟩
   have HRE:=Lib.hid hr
   rw [←hr] at HRA
   have HRN:=Lib.hid (show NumAt w T.n r.a r.g r.o (natV (fn r.l)) from by have:=HRA.out.1;unfold Row.At at this;rw [HRA.out.2.1] at this;exact this)
   obtain ⟨ra,hra⟩:∃ z,z=r.a:=⟨_,rfl⟩
   obtain rfl:ra=some ⟨r.g,r.o,none⟩:=by rw [hra];exact HRN.out.pa (by omega)
   have vb:∀ w',Ext w w'→gb<w'.heap.size:=fun w' x=>Nat.lt_of_lt_of_le HCC.out.2.1 x.le
   obtain ⟨g,hg⟩:∃ z,z=r.g:=⟨_,rfl⟩
   obtain ⟨o,ho⟩:∃ z,z=r.o:=⟨_,rfl⟩
   obtain ⟨rc,hrc⟩:∃ z,z=r.c:=⟨_,rfl⟩
   obtain ⟨l,hl'⟩:∃ z,z=r.l:=⟨_,rfl⟩
   have vcell:∀ w',Ext w w'→w'.cell? ⟨gb,go'+k,none⟩=some (.slice (some ⟨g,o,none⟩) T.n rc):=fun w' x=>by
    rw [x.cell (HCC.out.2.2 k hkR),←hr]
    unfold Row.val
    rw [HRA.out.2.1,←hra,←hg,←ho,←hrc]
   have HRL:=Lib.hid hl'
   have HCO:=Lib.hid HRA.out.2
   rw [←hra,←hg,←ho,←hl'] at HRN
   rw [←hl'] at HCO
   have hrr:Ext wr wr:=Ext.refl _
   clear hra hg ho hrc hr hl'
   have HNP:=Lib.hid (show NxI T w1 (.slice a5 lm c5) RN (T.nexts ((R.take k).map Row.l)++T.part l 0) wr from HN.out.like (by show _=_++[];rw [List.append_nil]))
   go_wp2_with fail
   go_loopg [5,18] T.n (fun gg v5 v18 wr=>∃ (p:Nat) (RN:List Row),p≤T.n∧gg=T.n - p∧v18=.int .i64 p∧NxI T w1 v5 RN (T.nexts ((R.take k).map Row.l)++T.part l p) wr)
   case atStart=>exact ⟨0,RN,by omega,rfl,rfl,HNP.out⟩
   case round=>
    rename World=>wi
    obtain ⟨p,RI,hp,rfl,rfl,hN⟩:=hrel
    obtain ⟨a6,c6,rfl⟩:=hN.q.1.slice
    have hxi:=hN.x
    have hxwi:=hx1.trans hxi
    have HI:=Lib.hid hN
    have HLMi:=Lib.hid (show RI.length≤8*k+p from by
     have h1:=congrArg List.length hN.m
     have h2:=nexts_len T ((R.take k).map Row.l)
     have h3:T.n*((R.take k).map Row.l).length≤8*k:=by
      refine Nat.le_trans (Nat.mul_le_mul_right _ hn8) (Nat.mul_le_mul_left _ ?_)
      rw [List.length_map,List.length_take];omega
     have h4:(T.part l p).length≤p:=by unfold Tr.part;rw [List.length_map];exact T.onL_len _ _
     rw [List.length_map,List.length_append] at h1;omega)
    obtain ⟨li,hli⟩:∃ z,z=RI.length:=⟨_,rfl⟩
    have hli8:li≤8*k+p:=by rw [hli];exact HLMi.out
    have HLI:=Lib.hid hli
    rw [←hli] at HI ⊢
    clear hN hli
    by_cases hpn:p<T.n
    ·have hpn':(p:Int)<(T.n:Int):=by omega
     have hrd:=krd_any wi T HV.out B _ (HM.out.ext hxwi) (some ⟨g,o,none⟩) g o rc (fn l) (HRN.out.ext hxwi) HCO.out.2 p hpn
     have hii:Ext wi wi:=Ext.refl _
     by_cases hon:T.On (fn l) p
     ·have hrd':Calls Tryz.prog 223 #[.agg #[.slice al T.n cl,.slice an T.n cn],.slice (some ⟨g,o,none⟩) T.n rc,.int .i64 p] wi (fun e w'=>e=.returned (.bool true)∧Ext wi w'):=hrd.mono fun e w' ⟨b,he,hb,hx⟩=>⟨by rw [he,hb.2 hon],hx⟩
      have HPS:=Lib.hid (show T.part l (p+1)=T.part l p++[rowOf T.n (upC (fn l) p)] from by unfold Tr.part;rw [Tr.onL_yes hon,List.map_append];rfl)
      obtain ⟨cp,hcp⟩:∃ z,z=fn l p:=⟨_,rfl⟩
      have HCP:=Lib.hid hcp
      have hcp64:cp≤64:=by rw [hcp];exact CutL.val HV.out HCO.out hpn
      have hw1:IntKind.i64.wrap ((cp:Int)+1)=(cp:Int)+1:=IntWalk.i64_in _ (by omega)
      clear hrd hcp
      go_upto_region 10 with (first | (go_at_call 223;refine hrd'.mono ?_;rintro e w4 ⟨rfl,hx4⟩) | (go_at_call 224;refine (clonen_any w4 g o T.n rc (natV (fn l)) (HRN.out.ext (hxwi.trans hx4)) (by omega) (by omega)).mono ?_;rintro e w5 ⟨g5,o5,c5',rfl,q1,q2,q3,hx5⟩))
      have HQ3:=Lib.hid q3
      have l5:∀ w',Ext w5 w'→g5<w'.heap.size:=fun w' x=>Nat.lt_of_lt_of_le q2 x.le
      have k5:∀ w',Ext w5 w'→w'.cell? ⟨g5,o5+p,none⟩=some (.int .i64 (cp:Int)):=fun w' x=>by rw [HCP.out];exact x.cell (HQ3.out p hpn).1
      have f5:∀ w',Ext w5 w'→w'.frozen? ⟨g5,o5+p,none⟩=false:=fun w' x=>(x.frozen (p:=⟨g5,o5+p,none⟩) q2).trans (HQ3.out p hpn).2
      have h55:Ext w5 w5:=Ext.refl _
      have HG5:=Lib.hid (And.intro q1 q2)
      clear q3 q1 q2 hrd'
      go_upto_region 11 with fail
      refine setm1 (G:=fun x=>Code.wp _ _ _ _ x) ?_
      intro w6 hw6
      have HX6:=Lib.hid (show Ext wi w6 from by rw [hw6];exact (hx4.trans hx5).setCell (by show wi.heap.size≤g5;have:=HG5.out.1;have:=hx4.le;omega) _)
      have HN6:=Lib.hid (show Row.At ⟨rowOf T.n (upC (fn l) p),some ⟨g5,o5,none⟩,g5,o5,c5'⟩ w6 from by
       show NumAt w6 (rowOf T.n (upC (fn l) p)).length _ g5 o5 (natV (fn (rowOf T.n (upC (fn l) p))))
       rw [rowOf_len]
       refine ⟨by omega,fun _=>rfl,fun _=>by rw [hw6,World.size_setCell];exact HG5.out.2,fun j hj=>?_⟩
       show _=some (Value.int .i64 ((fn (rowOf T.n (upC (fn l) p)) j:Nat):Int))
       rw [fn_rowOf hj,hw6]
       by_cases e:j=p
       ·subst e
        refine (World.cell?_setCell_same _ _ _ (HQ3.out j hj).1).trans ?_
        rw [upC_same,HCP.out];rfl
       ·refine Eq.trans (World.cell?_setCell_other _ _ _ _ fun h9=>?_) ((HQ3.out j hj).1.trans ?_)
        ·simp only [Addr.mk.injEq] at h9;omega
        ·rw [upC_other e])
      have hx6:=HX6.out
      have hx16:=hxi.trans hx6
      have hg5i:wi.heap.size≤g5:=by have:=HG5.out.1;have:=hx4.le;omega
      clear hw6 l5 k5 f5 h55
      go_upto_region 12 with (at_builtin;go_loud (refine wpList_append_que _ rfl _ _ 28 28 rfl (base:=w1.heap.size) (e:=25) (size:=1) j0 (.slice none 0 0) 24 Tryz.underlying28 hj0 hy0 hy1 hy2 rfl rfl (v:=.slice a6 li c6) (n:=li) (xs:=RI.map Row.val) (by have h1:=(HI.out.q.1.ext hx6).ext (Ext.alloc w6 (.cells #[.slice (some ⟨g5,o5,none⟩) T.n c5'] 25));rw [←HLI.out] at h1;exact h1) (by rw [World.size_alloc];have:=hx16.le;omega) (.slice (some ⟨w6.heap.size,0,none⟩) 1 1) 1 [.slice (some ⟨g5,o5,none⟩) T.n c5'] rfl (by exact Src.ofSlice _ Tryz.underlying28 ⟨w6.heap.size,0,none⟩ 1 1 _ rfl (news_ok w6 _ _) (by intro u hu;simp at hu;subst hu;rfl)) (by unfold maxLen;omega) (by omega) ?_;rintro v7 w7 hq7 hg7 ho7))
      have HN7:=Lib.hid (show NxI T w1 v7 (RI++[⟨rowOf T.n (upC (fn l) p),some ⟨g5,o5,none⟩,g5,o5,c5'⟩]) (T.nexts ((R.take k).map Row.l)++T.part l (p+1)) w7 from by
       rw [HPS.out,←List.append_assoc]
       refine NxI.add ((HI.out.ext hx6).ext (Ext.alloc _ _)) (HN6.out.ext (Ext.alloc _ _)) (fun x hx=>?_) (by show w1.heap.size≤g5;have:=hxi.le;omega) (fun e=>by have h9:=HI.out.b g5 e;omega) ?_ hg7 ho7
       ·have h8:x.l∈(RI++[(⟨rowOf T.n (upC (fn l) p),some ⟨g5,o5,none⟩,g5,o5,c5'⟩:Row)]).map Row.l:=List.mem_map.2 ⟨x,hx,rfl⟩
        rcases List.mem_append.1 hx with h1 | h1
        ·have h2:x.l∈T.nexts ((R.take k).map Row.l)++T.part l p:=by rw [←HI.out.m];exact List.mem_map.2 ⟨x,h1,rfl⟩
         have h3:x.l.length=T.n:=by
          rcases List.mem_append.1 h2 with h4 | h4
          ·obtain ⟨y,_,h5⟩:=List.mem_flatMap.1 h4
           obtain ⟨q,_,_,h6⟩:=Tr.mem_nextOf.1 h5
           rw [h6,rowOf_len]
          ·obtain ⟨q,_,h6⟩:=List.mem_map.1 h4
           rw [←h6,rowOf_len]
         omega
        ·obtain rfl:=List.mem_singleton.1 h1
         show 0<(rowOf T.n _).length
         rw [rowOf_len];omega
       ·rw [←HLI.out]
        show Que w7 _ 1 v7 (li+1) (RI.map Row.val++[.slice (some ⟨g5,o5,none⟩) (rowOf T.n (upC (fn l) p)).length c5'])
        rw [rowOf_len];exact hq7)
      clear hq7 hg7 ho7
      go_wp2_with fail
      go_roundg (T.n - (p+1))
      case rel=>exact ⟨p+1,_,by omega,rfl,by go_num,HN7.out⟩
      case measure=>omega
     ·have hrd' : Calls Tryz.prog 223 #[.agg #[.slice al T.n cl, .slice an T.n cn], .slice (some ⟨g, o, none⟩) T.n rc, .int .i64 p] wi (fun e w' => e = .returned (.bool false) ∧ Ext wi w') := hrd.mono fun e w' ⟨b, he, hb, hx⟩ => ⟨by
          rw [he]
          cases b with
          | false => rfl
          | true => exact absurd (hb.1 rfl) hon,hx⟩
      have HPS:=Lib.hid (show T.part l (p+1)=T.part l p from by unfold Tr.part;rw [Tr.onL_no hon])
      clear hrd
      go_wp2_with (go_at_call 223;refine hrd'.mono ?_;rintro e w4 ⟨rfl,hx4⟩)
      go_roundg (T.n - (p+1))
      case rel=>exact ⟨p+1,RI,by omega,rfl,by go_num,by rw [HPS.out];exact HI.out.ext hx4⟩
      case measure=>omega
    ·obtain rfl:p=T.n:=by omega
     have HNK:=Lib.hid (show NxI T w1 (.slice a6 li c6) RI (T.nexts ((R.take (k+1)).map Row.l)) wi from HI.out.like (by rw [part_all,nexts_take hkR,HRL.out,HRE.out]))
     go_wp2_with fail
     go_roundg (ln - (k+1))
     case rel=>exact ⟨k+1,RI,by omega,rfl,by go_num,HNK.out⟩
     case measure=>omega
  ·obtain rfl:k=ln:=by omega
   have HMR:=Lib.hid (show RN.map Row.l=T.nexts (R.map Row.l) from by rw [HN.out.m,List.take_of_length_le (by rw [HLN.out];exact Nat.le_refl _)])
   have HRN:=Lib.hid (show ∀ x∈RN,x.l.length=T.n from fun x hx=>by
    have h2:x.l∈T.nexts (R.map Row.l):=by rw [←HMR.out];exact List.mem_map.2 ⟨x,hx,rfl⟩
    obtain ⟨y,_,h5⟩:=List.mem_flatMap.1 h2
    obtain ⟨q,_,_,h6⟩:=Tr.mem_nextOf.1 h5
    rw [h6,rowOf_len])
   have hsort:=rsort_rows (w:=wr) (base:=w1.heap.size) (v:=.slice a5 lm c5) (R:=RN) (n:=T.n) HN.out.q hxr.le (by rw [←HLE.out];omega) HRN.out hn1 (fun x hx=>(HN.out.a x hx).1) 226 (enters_of Tryz.func226 (by kernel_rfl) rfl) (fun W r s hr hs h1 h2=>by
    have hr':NumAt W T.n r.a r.g r.o (natV (fn r.l)):=by have:=h1;unfold Row.At at this;rw [HRN.out _ hr] at this;exact this
    have hs':NumAt W T.n s.a s.g s.o (natV (fn s.l)):=by have:=h2;unfold Row.At at this;rw [HRN.out _ hs] at this;exact this
    have h3:=nxt1_any W r.a s.a r.g r.o s.g s.o T.n r.c s.c (fn r.l) (fn s.l) hr' hs'
    unfold Row.val;rw [HRN.out _ hr,HRN.out _ hs];exact h3)
   go_upto_region 15 with (go_at_call 225;refine hsort.mono ?_;rintro e w5 ⟨rfl,R5,hp5,hs5,ho5,hh5⟩)
   have HR5:=Lib.hid (show ∀ x∈R5,x∈RN from fun x hx=>hp5.mem_iff.1 hx)
   have HA5:=Lib.hid (show ∀ x∈R5,x.At w5 from fun x hx=>ho5.row (HN.out.q.2 x (HR5.out x hx)) (by rw [HRN.out _ (HR5.out x hx)];exact hn1) (HN.out.a x (HR5.out x hx)).1)
   have hcomp:=rcompact_any w5 w1.heap.size (.slice a5 lm c5) R5 T.n hh5 HA5.out (fun x hx=>HRN.out _ (HR5.out x hx)) hn1 (by rw [hp5.length_eq,←HLE.out];omega) (fun x hx=>(HN.out.a x (HR5.out x hx)).1)
   have HP5:=Lib.hid (And.intro hp5 (And.intro hs5 ho5))
   clear hsort hp5 hs5 ho5 hh5
   go_wp2_with (go_at_call 227;refine hcomp.mono ?_;rintro e w6 ⟨v6,rfl,hh6,ho6⟩)
   have hx6:Ext w w6:=Below.trans (Below.trans hxw (Below.mono HP5.out.2.2.below hx1.le)) (Below.mono ho6.below hx1.le)
   have HCS:=Lib.hid (compJ_sorted (R:=R5) (n:=T.n) HP5.out.2.1 (fun x hx=>HRN.out _ (HR5.out x hx)) (Nat.le_refl _))
   have HCM:=Lib.hid (show ∀ x∈compJ R5 R5.length,x∈R5 from fun x hx=>compJ_mem (Nat.le_refl _) x hx)
   have HH6:=Lib.hid hh6
   have HO6:=Lib.hid ho6
   clear hh6 ho6 hcomp
   go_ret
   refine ⟨hx6,v6,compJ R5 R5.length,rfl,?_,fun x hx=>⟨?_,?_⟩,Nat.le_trans (compJ_len _ _) (by rw [HP5.out.1.length_eq];exact HLM.out),HCS.out.1,fun l=>?_⟩
   ·rcases HH6.out with ⟨h1,h2⟩ | ⟨g,off,cap,h1,h2,h3,h4⟩
    ·exact .inl ⟨h1,h2⟩
    ·exact .inr ⟨g,off,cap,h1,h2,Nat.le_trans hx1.le h3,h4⟩
   ·have h1:=HCM.out x hx
    exact HO6.out.row (HA5.out x h1) (by rw [HRN.out _ (HR5.out x h1)];exact hn1) (HN.out.a x (HR5.out x h1)).1
   ·exact Nat.le_trans hx1.le (HN.out.a x (HR5.out x (HCM.out x hx))).2
   ·have h1 : (∃ x ∈ compJ R5 R5.length, x.l = l) ↔ ∃ x ∈ RN, x.l = l := by
      constructor
      ·rintro ⟨x,hx,e⟩;exact ⟨x,HR5.out x (HCM.out x hx),e⟩
      ·rintro ⟨x,hx,e⟩
       have h2:=HP5.out.1.mem_iff.2 hx
       obtain ⟨i,hi,h3⟩:=List.getElem_of_mem h2
       obtain ⟨y,hy,h4⟩:=HCS.out.2.1 i hi
       exact ⟨y,hy,by rw [h4,getD_at hi,h3,e]⟩
    rw [h1]
    have h2:(∃ x∈RN,x.l=l)↔l∈T.nexts (R.map Row.l):=by rw [←HMR.out];exact List.mem_map.symm
    rw [h2]
    unfold Tr.nexts
    rw [List.mem_flatMap]
    constructor
    ·rintro ⟨y,hy,h5⟩
     obtain ⟨a,ha,rfl⟩:=List.mem_map.1 hy
     exact ⟨a,ha,h5⟩
    ·rintro ⟨a,ha,h5⟩;exact ⟨a.l,List.mem_map.2 ⟨a,ha,rfl⟩,h5⟩
end Go.Proofs.YtmhapcnlpoilpaaGreatDoor
