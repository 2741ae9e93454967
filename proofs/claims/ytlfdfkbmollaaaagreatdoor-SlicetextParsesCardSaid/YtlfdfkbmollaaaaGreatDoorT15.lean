/- Contracts and laws in plain Lean for RApp: group T15. -/
import Derived.Test.YtlfdfkbmollaaaaGreatDoorT14
import Derived.Test.YtlfdfkbmollaaaaGreatDoorT07
import Derived.Deep.RegionHeld
import Derived.Test.YtlfdfkbmollaaaaGreatDoorT06
namespace Go.Proofs.YtlfdfkbmollaaaaGreatDoor
def Tr.ReadyC (T:Tr) (c:Nat→Nat) (p:Nat):Prop:=c p<T.en p∧(T.kind p (c p)=3→(T.sndN (p,c p)).2<c (T.sndN (p,c p)).1)
structure Tr.AcI (T:Tr) (c:Nat→Nat):Prop where
 le:∀ p,p<T.n→c p≤T.en p
 rk:∃ r:NN→Nat,(∀ p i,p<T.n→i<c p→r (p,i)<tot c T.n)∧∀ p i,p<T.n→i<c p→∀ y,T.Dir y (p,i)→y.2<c y.1∧r y<r (p,i)
theorem Tr.AcI.start (T:Tr):T.AcI (fun _=>0):=⟨fun _ _=>Nat.zero_le _,fun _=>0,fun _ _ _ h=>absurd h (Nat.not_lt_zero _),fun _ _ _ h=>absurd h (Nat.not_lt_zero _)⟩
theorem tot_upd {c:Nat→Nat} {p n:Nat} (hp:p<n):tot (updC c p (c p+1)) n=tot c n+1:=
 tot_add (d:=1) hp (fun k hk=>by unfold updC;rw [if_neg hk]) (by unfold updC;rw [if_pos rfl])
theorem Tr.AcI.step {T:Tr} {c:Nat→Nat} {p:Nat} (h:T.AcI c) (hp:p<T.n) (hr:T.ReadyC c p):T.AcI (updC c p (c p+1)):=by
 obtain ⟨r,r1,r2⟩:=h.rk
 have hge:∀ k,c k≤updC c p (c p+1) k:=fun k=>by
  unfold updC
  by_cases e:k=p
  ·rw [if_pos e,e];omega
  ·rw [if_neg e];omega
 refine ⟨fun q hq=>?_,fun y=>if y=(p,c p) then tot c T.n else r y,fun q i hq hi=>?_,fun q i hq hi y hy=>?_⟩
 ·unfold updC
  by_cases e:q=p
  ·rw [if_pos e,e];exact hr.1
  ·rw [if_neg e];exact h.le q hq
 ·rw [tot_upd hp]
  dsimp only
  by_cases e:(q,i)=(p,c p)
  ·rw [if_pos e];omega
  ·rw [if_neg e]
   have:i<c q:=by
    unfold updC at hi
    by_cases e2:q=p
    ·rw [if_pos e2] at hi
     have:i≠c p:=fun h3=>e (by rw [e2,h3])
     rw [e2];omega
    ·rw [if_neg e2] at hi;exact hi
   have:=r1 q i hq this;omega
 ·by_cases e:(q,i)=(p,c p)
  ·have e1:q=p:=congrArg Prod.fst e
   have e2:i=c p:=congrArg Prod.snd e
   subst e1 e2
   have hyc:y.2<c y.1∧y≠(q,c q):=by
    rcases hy with ⟨h1,h2⟩ | ⟨h1,h2⟩
    ·have h1:q=y.1:=h1
     have h2:c q=y.2+1:=h2
     rw [←h1]
     exact ⟨by omega,fun e3=>by have:y.2=c q:=congrArg Prod.snd e3;omega⟩
    ·have:=hr.2 h1
     rw [←h2] at this
     exact ⟨this,fun e3=>by have h5:y.1=q:=congrArg Prod.fst e3;have h6:y.2=c q:=congrArg Prod.snd e3;rw [h5,h6] at this;omega⟩
   refine ⟨Nat.lt_of_lt_of_le hyc.1 (hge _),?_⟩
   dsimp only
   rw [if_pos rfl,if_neg hyc.2]
   by_cases hyn:y.1<T.n
   ·exact r1 y.1 y.2 hyn hyc.1
   ·exfalso
    have hV:T.V y:=Tr.Dir.V (y:=(q,c q)) ⟨hq,hr.1⟩ hy
    exact hyn hV.1
  ·have hold : i < c q := by
     unfold updC at hi
     by_cases e2:q=p
     ·rw [if_pos e2] at hi
      have:i≠c p:=fun h3=>e (by rw [e2,h3])
      rw [e2];omega
     ·rw [if_neg e2] at hi;exact hi
   obtain ⟨h1,h2⟩:=r2 q i hq hold y hy
   refine ⟨Nat.lt_of_lt_of_le h1 (hge _),?_⟩
   dsimp only
   rw [if_neg e]
   have hne:y≠(p,c p):=fun e3=>by
    have h5:y.1=p:=congrArg Prod.fst e3
    have h6:y.2=c p:=congrArg Prod.snd e3
    rw [h5,h6] at h1;omega
   rw [if_neg hne];exact h2
theorem Tr.AcI.acy {T:Tr} {c:Nat→Nat} (h:T.AcI c) (hP:T.Pre) (hc:∀ p,p<T.n→c p=T.en p):T.Acy:=by
 obtain ⟨r,r1,r2⟩:=h.rk
 rintro ⟨x,hp⟩
 have:=path_rank (V:=T.V) r (fun a b ha hb=>by
  obtain ⟨hd,hv⟩:=hP.succ_dir ha hb
  exact ⟨hv,(r2 b.1 b.2 hv.1 (by rw [hc _ hv.1];exact hv.2) a hd).2⟩) x.2 hp
 exact absurd this.2 (Nat.lt_irrefl _)
theorem Tr.AcI.full {T:Tr} {c:Nat→Nat} (hP:T.Pre) (hA:T.Acy) (h:T.AcI c) (hn:∀ p,p<T.n→¬T.ReadyC c p):∀ p,p<T.n→c p=T.en p:=by
 have hV:T.Valid:=Tr.valid_iff.2 ⟨hP,hA⟩
 have key:=hV.ind (P:=fun y=>y.2<c y.1) (fun y hy ih=>by
  refine Classical.byContradiction fun hny=>?_
  have hle:=h.le y.1 hy.1
  by_cases he:y.2=c y.1
  ·refine hn y.1 hy.1 ⟨by rw [←he];exact hy.2,fun h3=>?_⟩
   have hd:T.Dir (T.sndN y) y:=.inr ⟨by rw [←he] at h3;exact h3,rfl⟩
   have:=ih _ (Tr.Dir.V hy hd) hd
   rw [←he];exact this
  ·have hd:T.Dir (y.1,y.2 - 1) y:=.inl ⟨rfl,by show y.2=y.2 - 1+1;omega⟩
   have:y.2 - 1<c y.1:=ih _ (Tr.Dir.V hy hd) hd
   omega)
 intro p hp
 refine Classical.byContradiction fun hne=>?_
 have hle:=h.le p hp
 have:=key (p,c p) ⟨hp,by show c p<T.en p;omega⟩
 exact absurd this (Nat.lt_irrefl _)
end Go.Proofs.YtlfdfkbmollaaaaGreatDoor

namespace Go.Proofs.YtlfdfkbmollaaaaGreatDoor
def Tr.SP (T:Tr) (x y:NN):Prop:=∃ z,T.Past x z∧T.Dir y z
theorem Tr.SP.V {T:Tr} {x y:NN} (hx:T.V x) (h:T.SP x y):T.V y:=by
 obtain ⟨z,h1,h2⟩:=h
 exact Tr.Dir.V (h1.V hx) h2
theorem Tr.SP.step {T:Tr} {x y z:NN} (h:T.SP x y) (d:T.Dir z y):T.SP x z:=by
 obtain ⟨u,h1,h2⟩:=h
 exact ⟨y,.step h1 h2,d⟩
structure Tr.BfI (T:Tr) (x:NN) (S q:List NN):Prop where
 hx:T.V x
 nd:S.Nodup
 sv:∀ y∈S,T.SP x y
 qv:∀ y∈q,T.SP x y
 xx:∀ y,T.Dir y x→y∈S∨y∈q
 cl:∀ y∈S,∀ z,T.Dir z y→z∈S∨z∈q
theorem Tr.BfI.start {T:Tr} {x:NN} (hx:T.V x):T.BfI x [] (T.bk x):=
 ⟨hx,List.nodup_nil,(fun y hy=>by cases hy),(fun y hy=>⟨x,.self,Tr.mem_bk.1 hy⟩),(fun y hy=>.inr (Tr.mem_bk.2 hy)),(fun y hy=>by cases hy)⟩
theorem Tr.BfI.skip {T:Tr} {x y:NN} {S q:List NN} (h:T.BfI x S (y :: q)) (hy:y∈S):T.BfI x S q:=by
 refine ⟨h.hx,h.nd,h.sv,fun z hz=>h.qv z (by simp [hz]),fun z hz=>?_,fun u hu z hz=>?_⟩
 ·rcases h.xx z hz with h | h
  ·exact .inl h
  ·rcases List.mem_cons.1 h with rfl | h
   ·exact .inl hy
   ·exact .inr h
 ·rcases h.cl u hu z hz with h | h
  ·exact .inl h
  ·rcases List.mem_cons.1 h with rfl | h
   ·exact .inl hy
   ·exact .inr h
theorem Tr.BfI.take {T:Tr} {x y:NN} {S q:List NN} (h:T.BfI x S (y :: q)) (hy:y∉S):T.BfI x (y :: S) (q++T.bk y):=by
 have hpy:=h.qv y (by simp)
 refine ⟨h.hx,List.nodup_cons.2 ⟨hy,h.nd⟩,fun z hz=>?_,fun z hz=>?_,fun z hz=>?_,fun u hu z hz=>?_⟩
 ·rcases List.mem_cons.1 hz with rfl | hz
  ·exact hpy
  ·exact h.sv z hz
 ·rcases List.mem_append.1 hz with hz | hz
  ·exact h.qv z (by simp [hz])
  ·exact hpy.step (Tr.mem_bk.1 hz)
 ·rcases h.xx z hz with h | h
  ·exact .inl (by simp [h])
  ·rcases List.mem_cons.1 h with rfl | h
   ·exact .inl (by simp)
   ·exact .inr (by simp [h])
 ·rcases List.mem_cons.1 hu with rfl | hu
  ·exact .inr (List.mem_append.2 (.inr (Tr.mem_bk.2 hz)))
  ·rcases h.cl u hu z hz with h | h
   ·exact .inl (by simp [h])
   ·rcases List.mem_cons.1 h with rfl | h
    ·exact .inl (by simp)
    ·exact .inr (by simp [h])
theorem Tr.BfI.done {T:Tr} {x:NN} {S:List NN} (h:T.BfI x S []) (y:NN):y∈S↔T.SP x y:=by
 refine ⟨h.sv y,fun ⟨z,h1,h2⟩=>?_⟩
 have key:∀ z,T.Past x z→z=x∨z∈S:=by
  intro z hz
  induction hz with
  | self => exact .inl rfl
  | @step u z _ d ih =>
   rcases ih with rfl | ih
   ·rcases h.xx z d with h | h
    ·exact .inr h
    ·cases h
   ·rcases h.cl u ih z d with h | h
    ·exact .inr h
    ·cases h
 rcases key z h1 with rfl | hz
 ·rcases h.xx y h2 with h | h
  ·exact h
  ·cases h
 ·rcases h.cl z hz y h2 with h | h
  ·exact h
  ·cases h
def Tr.bfM (T:Tr) (S q:List NN):Nat:=q.length+3*(T.evs.length - S.length)
theorem Tr.BfI.less {T:Tr} {x y:NN} {S q:List NN} (h:T.BfI x S (y :: q)) (hy:y∉S):T.bfM (y :: S) (q++T.bk y)<T.bfM S (y :: q):=by
 have h2:=h.take hy
 have hc:=evs_count h2.nd (fun z hz=>(h2.sv z hz).V h.hx)
 have hb:=T.bk_len y
 unfold Tr.bfM
 rw [List.length_append,List.length_cons] at *
 simp only [List.length_cons] at *
 omega
def bfF (S:List NN) (k i:Nat):Bool:=decide (0<i∧(k,i - 1)∈S)
theorem bfF_nil (k i:Nat):bfF [] k i=false:=by unfold bfF;simp
theorem bfF_succ (S:List NN) (k i:Nat):bfF S k (i+1)=decide ((k,i)∈S):=by unfold bfF;simp
theorem bfF_cons (S:List NN) (p j k i:Nat):bfF ((p,j) :: S) k i=if k=p∧i=j+1 then true else bfF S k i:=by
 unfold bfF
 by_cases h:k=p∧i=j+1
 ·rw [if_pos h];obtain ⟨rfl,rfl⟩:=h;simp
 ·rw [if_neg h,Bool.eq_iff_iff]
  simp only [decide_eq_true_eq,List.mem_cons,Prod.mk.injEq]
  constructor
  ·rintro ⟨h0,h1 | h1⟩
   ·exact absurd ⟨h1.1,by omega⟩ h
   ·exact ⟨h0,h1⟩
  ·rintro ⟨h0,h1⟩
   exact ⟨h0,.inr h1⟩
theorem Tr.Pre.sp_path {T:Tr} (hP:T.Pre) {x y:NN} (hx:T.V x):T.SP x y→Path (T.succ (Ltr.of T T.evs)) y x:=by
 rintro ⟨z,h1,h2⟩
 have hz:=h1.V hx
 induction h1 generalizing y with
 | self => exact Path.one (hP.dir_succ hx h2)
 | @step u z h1 d ih => exact Path.cons (hP.dir_succ hz h2) (ih d (h1.V hx))
theorem Tr.Pre.path_sp {T:Tr} (hP:T.Pre) {x y:NN} (hx:T.V x) (h:Path (T.succ (Ltr.of T T.evs)) x y):T.SP y x:=by
 obtain ⟨n,h⟩:=h
 induction n generalizing x with
 | zero => exact ⟨y,.self,(hP.succ_dir hx h).1⟩
 | succ n ih =>
  obtain ⟨z,hz,h⟩:=h
  obtain ⟨hd,hv⟩:=hP.succ_dir hx hz
  exact (ih hv h).step hd
theorem Tr.Pre.acy_iff {T:Tr} (hP:T.Pre):T.Acy↔∀ x,T.V x→¬T.SP x x:=by
 constructor
 ·intro h x hx hs
  exact h ⟨⟨x,hx⟩,hP.sp_path hx hs⟩
 ·rintro h ⟨x,hp⟩
  exact h x.1 x.2 (hP.path_sp x.2 hp)
end Go.Proofs.YtlfdfkbmollaaaaGreatDoor

namespace Go.Proofs.YtlfdfkbmollaaaaGreatDoor
open Go.RowKit Go.Shelf
theorem evCells_app (a b:List (Int × Int)):evCells (a++b)=evCells a++evCells b:=by simp [evCells]
theorem infoBool:(Tryz.prog.info? 4).map (fun i=>(i.zero,i.size,i.bytes))=some (some (.bool false),1,1):=by kernel_rfl
theorem infoBools:(Tryz.prog.info? 151).map (fun i=>(i.zero,i.size,i.bytes))=some (some (.slice none 0 0),1,24):=by kernel_rfl
theorem ownsRow_same {w w':World} {base:Nat} {t:TypeId} {k:Nat} {v:Value} {n:Nat} {xs:List Value} (h:w.ownsRow base t k v n xs) (hs:∀ g,v.ownBlock=some g→w'.heap[g]?=w.heap[g]?):w'.ownsRow base t k v n xs:=by
 obtain ⟨h1,⟨hv,hn⟩ | ⟨g,cap,cur,hv,hg,hh,rest⟩⟩:=h
 ·exact ⟨h1,.inl ⟨hv,hn⟩⟩
 ·exact ⟨h1,.inr ⟨g,cap,cur,hv,hg,(hs g (by subst hv;rfl)).trans hh,rest⟩⟩
structure BRow (w:World) (g n:Nat) (f:Nat→Bool):Prop where
 c:∀ i,i<n→w.cell? ⟨g,i,none⟩=some (.bool (f i))
 fr:∀ o,w.frozen? ⟨g,o,none⟩=false
 lt:g<w.heap.size
theorem BRow.block {w w':World} {g n:Nat} {f:Nat→Bool} (h:BRow w g n f) (hs:w.heap.size≤w'.heap.size) (x:w'.heap[g]?=w.heap[g]?):BRow w' g n f:=
 ⟨fun k hk=>(World.cell?_of_block (w:=w) (a:=⟨g,k,none⟩) x).trans (h.c k hk),fun o=>(World.frozen?_of_block (w:=w) (a:=⟨g,o,none⟩) x).trans (h.fr o),Nat.lt_of_lt_of_le h.lt hs⟩
theorem BRow.made {w:World} {base g n:Nat} (h:w.ownsRow base 4 1 (.slice (some ⟨g,0,none⟩) n n) n (madeCells (Value.bool false).cells (n*1)).toList):BRow w g n (fun _=>false):=by
 obtain ⟨h1,⟨hv,_⟩ | ⟨g',cap,cur,hv,hg,hh,hc,hm,hs,ht⟩⟩:=h
 ·cases hv
 ·simp only [Value.slice.injEq,Option.some.injEq,Addr.mk.injEq] at hv
  obtain ⟨⟨rfl,_⟩,_,rfl⟩:=hv
  have hb:=Box.of hh
  have hz:(Value.bool false).cells=#[.bool false]:=rfl
  rw [hz,toList_madeCells_one] at ht
  refine ⟨fun k hk=>?_,fun o=>hb.frozen w (Ext.refl _) o,hb.lt w (Ext.refl _)⟩
  rw [hb.cell w (Ext.refl _)]
  have:cur[k]?=(List.replicate (n*1) (Value.bool false))[k]?:=by rw [←ht,List.getElem?_take_of_lt (by omega)];simp
  rw [this,List.getElem?_replicate,if_pos (by omega)]
theorem BRow.congr {w:World} {g n:Nat} {f f':Nat→Bool} (h:BRow w g n f) (e:∀ i,f i=f' i):BRow w g n f':=⟨fun i hi=>by rw [←e];exact h.c i hi,h.fr,h.lt⟩
structure BoM (wb B n:Nat) (len:Nat→Nat) (v:Value) (rb:Nat→Nat) (f:Nat→Nat→Bool) (w:World):Prop where
 own:w.ownsRow wb 151 1 v n ((List.range n).map fun k=>Value.slice (some ⟨rb k,0,none⟩) (len k) (len k))
 vhi:∀ g,v.ownBlock=some g→g<B
 row:∀ k,k<n→BRow w (rb k) (len k) (f k)
 lo:∀ k,k<n→wb≤rb k
 hi:∀ k,k<n→rb k<B
 inj:∀ j k,j<n→k<n→j≠k→rb j≠rb k
 far:∀ k,k<n→v.ownBlock≠some (rb k)
theorem BoM.nil (wb B:Nat) (len:Nat→Nat) (rb:Nat→Nat) (f:Nat→Nat→Bool) (w:World):BoM wb B 0 len (.slice none 0 0) rb f w:=
 ⟨World.ownsRow_nil _ _ _ _,(fun g e=>by cases e),fun k hk=>absurd hk (Nat.not_lt_zero _),fun k hk=>absurd hk (Nat.not_lt_zero _),fun k hk=>absurd hk (Nat.not_lt_zero _),fun k _ hk=>absurd hk (Nat.not_lt_zero _),fun k hk=>absurd hk (Nat.not_lt_zero _)⟩
theorem BoM.same {wb B n:Nat} {len:Nat→Nat} {v:Value} {rb:Nat→Nat} {f:Nat→Nat→Bool} {w w':World} (h:BoM wb B n len v rb f w) (hs:w.heap.size≤w'.heap.size) (hb:∀ g,wb≤g→g<B→w'.heap[g]?=w.heap[g]?):BoM wb B n len v rb f w':=
 ⟨ownsRow_same h.own fun g e => hb g (by
     obtain ⟨_,⟨hv,_⟩ | ⟨g',cap,cur,hv,hg,_⟩⟩:=h.own
     ·subst hv;cases e
     ·subst hv;simp [Value.ownBlock] at e;omega) (h.vhi g e),h.vhi,fun k hk=>(h.row k hk).block hs (hb _ (h.lo k hk) (h.hi k hk)),h.lo,h.hi,h.inj,h.far⟩
theorem BoM.ext {wb B n:Nat} {len:Nat→Nat} {v:Value} {rb:Nat→Nat} {f:Nat→Nat→Bool} {w w':World} (h:BoM wb B n len v rb f w) (hB:B≤w.heap.size) (x:Ext w w'):BoM wb B n len v rb f w':=
 h.same x.le fun g _ hg=>x.block g (by omega)
theorem BoM.push {wb n L : Nat} {len : Nat → Nat} {v v' : Value} {rb : Nat → Nat} {f : Nat → Nat → Bool} {wr w3 w5 : World} {c : Array Value} {t : TypeId} (h : BoM wb wr.heap.size n len v rb f wr) (hw : wb ≤ wr.heap.size) (x3 : Ext wr w3)
    (hn:BRow w3 wr.heap.size L (fun _=>false)) (hL:L=len n) (hf:∀ i,f n i=false)
    (hown:w5.ownsRow wb 151 1 v' (n+1) (((List.range n).map fun k=>Value.slice (some ⟨rb k,0,none⟩) (len k) (len k))++[.slice (some ⟨wr.heap.size,0,none⟩) L L]))
    (hg:(w3.alloc (.cells c t)).grownBy w5 v.ownBlock) (hat:v'.ownBlock=v.ownBlock∨v'.ownBlock=some (w3.heap.size+1)) :
    BoM wb w5.heap.size (n+1) len v' (updC rb n wr.heap.size) f w5∧Below wb wr w5:=by
 subst hL
 have hlt3:=hn.lt
 have hsz:w3.heap.size+1≤w5.heap.size:=by have:=hg.size;rw [World.size_alloc] at this;exact this
 have hbl:∀ g,g<w3.heap.size→v.ownBlock≠some g→w5.heap[g]?=w3.heap[g]?:=fun g h1 h2=>by
  rw [hg.block g (by rw [World.size_alloc];omega) (fun e=>h2 e.symm),Below.heap_alloc _ _ _ h1]
 have hold:∀ k,k<n→updC rb n wr.heap.size k=rb k:=fun k hk=>by unfold updC;rw [if_neg (by omega)]
 have hnew:updC rb n wr.heap.size n=wr.heap.size:=by unfold updC;rw [if_pos rfl]
 have hcase:∀ k,k<n+1→k<n∨k=n:=fun k hk=>by omega
 have hv':∀ g,v'.ownBlock=some g→g<w5.heap.size:=by
  intro g e
  obtain ⟨_,⟨hv,_⟩ | ⟨g',cap,cur,hv,hg',hh,_⟩⟩:=hown
  ·subst hv;cases e
  ·subst hv;simp [Value.ownBlock] at e;subst e;exact (Array.getElem?_eq_some_iff.1 hh).1
 have hvw:v.ownBlock≠some wr.heap.size:=fun e=>by have:=h.vhi _ e;omega
 refine ⟨⟨?_,hv',fun k hk=>?_,fun k hk=>?_,fun k hk=>?_,fun j k hj hk hne=>?_,fun k hk=>?_⟩,?_⟩
 ·rw [List.range_succ,List.map_append]
  simp only [List.map_cons,List.map_nil,hnew]
  rw [List.map_congr_left (g:=fun k=>Value.slice (some ⟨rb k,0,none⟩) (len k) (len k)) fun k hk=>by rw [hold k (List.mem_range.1 hk)]]
  exact hown
 ·rcases hcase k hk with hk | rfl
  ·rw [hold k hk]
   have h1:=h.hi k hk
   refine (h.row k hk).block (by have:=x3.le;omega) ?_
   rw [hbl _ (by have:=x3.le;omega) (h.far k hk),x3.block _ h1]
  ·rw [hnew]
   exact (hn.block (by omega) (hbl _ hlt3 hvw)).congr fun i=>(hf i).symm
 ·rcases hcase k hk with hk | rfl
  ·rw [hold k hk];exact h.lo k hk
  ·rw [hnew];exact hw
 ·rcases hcase k hk with hk | rfl
  ·rw [hold k hk];have:=h.hi k hk;have:=x3.le;omega
  ·rw [hnew];omega
 ·rcases hcase j hj with hj | rfl <;> rcases hcase k hk with hk | rfl
  ·rw [hold j hj,hold k hk];exact h.inj j k hj hk hne
  ·rw [hold j hj,hnew];have:=h.hi j hj;omega
  ·rw [hold k hk,hnew];have:=h.hi k hk;omega
  ·exact absurd rfl hne
 ·intro e
  rcases hat with e' | e'
  ·rcases hcase k hk with hk | rfl
   ·rw [hold k hk] at e;exact h.far k hk (e'▸e)
   ·rw [hnew] at e;exact hvw (e'▸e)
  ·rw [e',Option.some.injEq] at e
   rcases hcase k hk with hk | rfl
   ·rw [hold k hk] at e;have:=h.hi k hk;have:=x3.le;omega
   ·rw [hnew] at e;omega
 ·have b1 : Below wb w3 w5 := ((Below.refl wb w3).alloc (by have := x3.le; omega) _).grown hg (by rw [World.size_alloc]; have := x3.le; omega) (fun k e => by
    obtain ⟨_,⟨hv,_⟩ | ⟨g',cap,cur,hv,hg',_⟩⟩:=h.own
    ·subst hv;cases e
    ·subst hv;simp [Value.ownBlock] at e;omega)
  exact (Below.mono x3 hw).trans b1
theorem BoM.form {wb B n : Nat} {len : Nat → Nat} {v : Value} {rb : Nat → Nat} {f : Nat → Nat → Bool} {w : World} (h : BoM wb B n len v rb f w) (h0 : 0 < n) :
    ∃ g cap,v=.slice (some ⟨g,0,none⟩) n cap∧wb≤g∧g<B∧n≤cap:=by
 obtain ⟨h1,⟨hv,hn⟩ | ⟨g,cap,cur,hv,hg,hh,hc,hm,hs,ht⟩⟩:=h.own
 ·omega
 ·exact ⟨g,cap,hv,hg,h.vhi g (by rw [hv];rfl),hc⟩
theorem BoM.cell {wb B n g cap : Nat} {len : Nat → Nat} {rb : Nat → Nat} {f : Nat → Nat → Bool} {w : World} (h : BoM wb B n len (.slice (some ⟨g, 0, none⟩) n cap) rb f w) :
    g<w.heap.size∧∀ k,k<n→w.cell? ⟨g,k,none⟩=some (.slice (some ⟨rb k,0,none⟩) (len k) (len k)):=by
 obtain ⟨h1,⟨hv,hn⟩ | ⟨g',cap',cur,hv,hg,hh,hc,hm,hs,ht⟩⟩:=h.own
 ·cases hv
 ·simp only [Value.slice.injEq,Option.some.injEq,Addr.mk.injEq] at hv
  obtain ⟨⟨rfl,_⟩,_,rfl⟩:=hv
  have hb:=Box.of hh
  refine ⟨hb.lt w (Ext.refl _),fun k hk=>?_⟩
  rw [hb.cell w (Ext.refl _)]
  have:cur[k]?=((List.range n).map fun k=>Value.slice (some ⟨rb k,0,none⟩) (len k) (len k))[k]?:=by rw [←ht,List.getElem?_take_of_lt (by omega)];simp
  rw [this,List.getElem?_map,List.getElem?_range hk];rfl
theorem BoM.set {wb B n p i : Nat} {len : Nat → Nat} {v : Value} {rb : Nat → Nat} {f f' : Nat → Nat → Bool} {w : World} (h : BoM wb B n len v rb f w) (hp : p < n) (hi : i < len p) (hf : ∀ k j, f' k j = if k = p ∧ j = i then true else f k j) :
    BoM wb B n len v rb f' (w.setCell ⟨rb p,i,none⟩ (.bool true)):=by
 have hoth:∀ g,g≠rb p→(w.setCell ⟨rb p,i,none⟩ (.bool true)).heap[g]?=w.heap[g]?:=fun g hg=>Below.heap_setCell _ _ _ _ hg
 refine ⟨ownsRow_same h.own fun g e=>hoth g fun e'=>h.far p hp (e'▸e),h.vhi,fun k hk=>?_,h.lo,h.hi,h.inj,h.far⟩
 by_cases e:k=p
 ·subst e
  refine ⟨fun j hj=>?_,fun o=>by rw [frozen_set];exact (h.row k hk).fr o,by rw [World.size_setCell];exact (h.row k hk).lt⟩
  rw [cell_set w (rb k) i j _ ((h.row k hk).c i hi),hf]
  by_cases ej:j=i
  ·rw [if_pos ej,if_pos ⟨rfl,ej⟩]
  ·rw [if_neg ej,if_neg (fun h=>ej h.2)];exact (h.row k hk).c j hj
 ·refine ((h.row k hk).block (by rw [World.size_setCell];exact Nat.le_refl _) (hoth _ (h.inj k p hk hp e))).congr fun j=>?_
  rw [hf,if_neg (fun h=>e h.1)]
structure BfW (T:TM) (w:World) (B:Nat) (v5:Value) (rb:Nat→Nat) (S q:List NN) (v:Value) (wr:World):Prop where
 h0:Hold wr w.heap.size #[.slice (some ⟨T.b,T.off,none⟩) T.n T.cap]
 bo:BoM (w.heap.size+1+1) B T.n (fun k=>T.en k+1) v5 rb (bfF S) wr
 qu:Que wr B 2 v q.length (evCells (q.map evI))
 bl:Ext w wr
 lo:w.heap.size+1+1≤B
 hi:B≤wr.heap.size
theorem BfW.ext {T:TM} {w:World} {B:Nat} {v5:Value} {rb:Nat→Nat} {S q:List NN} {v:Value} {wr w':World} (h:BfW T w B v5 rb S q v wr) (x:Ext wr w'):BfW T w B v5 rb S q v w':=
 ⟨h.h0.ext x,h.bo.ext h.hi x,h.qu.ext x,h.bl.trans x,h.lo,Nat.le_trans h.hi x.le⟩
theorem BfW.grow {T : TM} {w : World} {B : Nat} {v5 : Value} {rb : Nat → Nat} {S q l : List NN} {v v' : Value} {wr w4 w5 : World} (h : BfW T w B v5 rb S q v wr) (x : Ext wr w4)
    (hq:Que w5 B 2 v' (q.length+l.length) (evCells (q.map evI)++evCells (l.map evI))) (hg:w4.grownBy w5 v.ownBlock):BfW T w B v5 rb S (q++l) v' w5:=by
 have h4:=h.ext x
 have hb:=h4.qu.block
 have hlo:=h4.lo
 have hhi:=h4.hi
 have hbl:∀ k,k<B→w5.heap[k]?=w4.heap[k]?:=fun k hk=>hg.block k (by omega) (fun e=>by have:=hb k e.symm;omega)
 refine ⟨?_,h4.bo.same hg.size fun g _ hg=>hbl g hg,?_,?_,hlo,Nat.le_trans hhi hg.size⟩
 ·obtain ⟨t,h0⟩:=h4.h0
  exact ⟨t,(hbl _ (by omega)).trans h0⟩
 ·rw [List.length_append,List.map_append,evCells_app];exact hq
 ·exact Below.trans h4.bl ⟨hg.os,hg.tape,hg.output,hg.size,fun k hk=>hbl k (by omega)⟩
theorem BfW.set {T : TM} {w : World} {B : Nat} {v5 : Value} {rb : Nat → Nat} {S q : List NN} {v : Value} {wr : World} (h : BfW T w B v5 rb S q v wr) {p i : Nat} (hp : p < T.n) (hi : i < T.en p) :
    BfW T w B v5 rb ((p,i) :: S) q v (wr.setCell ⟨rb p,i+1,none⟩ (.bool true)):=by
 have h1:=h.bo.lo p hp
 have h2:=h.bo.hi p hp
 exact ⟨h.h0.other _ _ (by show _≠rb p;omega),h.bo.set hp (by show i+1<T.en p+1;omega) (fun k j=>bfF_cons S p i k j),h.qu.same (by rw [World.size_setCell];exact Nat.le_refl _) (fun g hg _=>Below.heap_setCell _ _ _ _ (by show g≠rb p;omega)),
  h.bl.setCell (by show _≤rb p;omega) _,h.lo,by rw [World.size_setCell];exact h.hi⟩
structure BoAt (w:World) (g n:Nat) (len:Nat→Nat) (rb:Nat→Nat) (f:Nat→Nat→Bool):Prop where
 lt:g<w.heap.size
 c0:∀ k,k<n→w.cell? ⟨g,k,none⟩=some (.slice (some ⟨rb k,0,none⟩) (len k) (len k))
 rl:∀ k,k<n→rb k<w.heap.size
 c1:∀ k i,k<n→i<len k→w.cell? ⟨rb k,i,none⟩=some (.bool (f k i))
theorem BoM.at {wb B n g cap:Nat} {len:Nat→Nat} {rb:Nat→Nat} {f:Nat→Nat→Bool} {w:World} (h:BoM wb B n len (.slice (some ⟨g,0,none⟩) n cap) rb f w):BoAt w g n len rb f:=
 ⟨h.cell.1,h.cell.2,fun k hk=>(h.row k hk).lt,fun k i hk hi=>(h.row k hk).c i hi⟩
def RPastPost (T:TM) (x:NN) (w:World) (e:Ending) (w':World):Prop:=Ext w w'∧∃ g cap rb f,e=.returned (.slice (some ⟨g,0,none⟩) T.n cap)∧T.n≤cap∧BoAt w' g T.n (fun k=>T.en k+1) rb f∧∀ k i,(f k (i+1)=true↔T.toTr.SP x (k,i))
theorem drewdj {w:World} {n:Nat} {G:World→Prop} (h:∀ w',Ext w w'→G w'):G (w.drewN n):=h _ ((Ext.refl _).drewN _)
theorem setdr {w:World} {p:Addr} {v:Value} {G:World→Prop} (h:∀ w7,w7=(w.setCell p v).drew→G w7):G ((w.setCell p v).drew):=h _ rfl
theorem EvOwn.shape {w:World} {base:Nat} {v:Value} {l:List (Int × Int)} (h:EvOwn w base v l):∃ a g c,v=.slice a l.length c∧(0<l.length→a=some ⟨g,0,none⟩∧base≤g∧g<w.heap.size∧EvRow w g l.length (fun k=>l.getD k (0,0))):=by
 by_cases h0:0<l.length
 ·obtain ⟨g,c,hv,hb,hr⟩:=h.row h0
  exact ⟨_,g,c,hv,fun _=>⟨rfl,hb,cell_lt (hr.c0 0 h0),hr⟩⟩
 ·obtain ⟨_,⟨hv,hn⟩ | ⟨g,cap,cur,hv,_⟩⟩:=h
  ·exact ⟨none,0,0,by rw [hv,hn],fun h=>absurd h h0⟩
  ·exact ⟨_,g,cap,hv,fun h=>absurd h h0⟩
theorem EvRow.blk {w w':World} {g n:Nat} {f:Nat→Int × Int} (h:EvRow w g n f) (e:w'.heap[g]?=w.heap[g]?):EvRow w' g n f:=
 ⟨fun k hk=>(World.cell?_of_block (w:=w) (a:=⟨g,k*2,none⟩) e).trans (h.c0 k hk),fun k hk=>(World.cell?_of_block (w:=w) (a:=⟨g,k*2+1,none⟩) e).trans (h.c1 k hk),fun o=>(World.frozen?_of_block (w:=w) (a:=⟨g,o,none⟩) e).trans (h.fr o)⟩
set_option maxRecDepth 100000 in
set_option maxHeartbeats 4000000 in
theorem rpast_any (w : World) (T : TM) (hT : T.At w) (hV : T.toTr.Pre) (x : NN) (hx : T.toTr.V x) :
    Calls Tryz.prog 95 #[T.val,.agg #[.int .i64 x.1,.int .i64 (x.2+1)]] w (RPastPost T x w):=by
 obtain ⟨i0,hi0,hz0,hz1,hz2⟩:=info_parts infoEv
 obtain ⟨j0,hj0,hy0,hy1,hy2⟩:=info_parts infoBool
 obtain ⟨m0,hm0,hm1,hm2,hm3⟩:=info_parts infoBools
 have hn1:=hV.n1
 have hn8:=hV.n8
 have hE8:∀ k,k<T.n→T.en k≤64:=fun k hk=>(hV.pr k hk).2.2.2.2
 have pa:=hT.P.pa (by omega)
 have pb:=hT.P.pb (by omega)
 have p2:=hT.P.p2
 have hB:=fun W (hx:Ext w W) p i hp hi=>rdir_any W T (hT.ext hx) hV p i hp hi
 simp only [TM.val,pa] at hB
 have HB:=Lib.hid hB
 have HME:=Lib.hid (show T.toTr.evs.length≤512 by
  have h:=tot_small hE8
  rw [T.toTr.evs_tot]
  have h3:T.n*64≤512:=by omega
  have h4:tot T.en T.n≤T.n*64:=h
  show tot T.en T.n≤512
  omega)
 clear hT hV hB
 go_enter Tryz.func95,Tryz.ntmps95
 go_upto_region 1 with fail
 refine boxed2 (w:=w) (G:=fun x=>Code.wp _ _ _ _ x) ?_
 intro w1 hx1 hs1 ⟨l0,c0,_,k0⟩ ⟨l1,c1,_,k1⟩
 have hx11:Ext w1 w1:=Ext.refl _
 have K0:=Lib.hid k0
 have HS1:=Lib.hid hs1
 clear k0 k1
 go_wp2_with fail
 clear hs1
 go_loopg [5,6] T.n (fun gg v5 v6 wr=>∃ (k:Nat) (rb:Nat→Nat),k≤T.n∧gg=T.n - k∧v6=.int .i64 k∧Ext w1 wr∧BoM (w.heap.size+1+1) wr.heap.size k (fun k=>T.en k+1) v5 rb (bfF []) wr)
 case atStart=>exact ⟨0,fun _=>0,by omega,rfl,rfl,hx11,BoM.nil _ _ _ _ _ _⟩
 case round=>
  obtain ⟨k,rb,hk,rfl,rfl,hxr,hI⟩:=hrel
  have HI:=Lib.hid hI
  clear hI
  have hxw:=hx1.trans hxr
  have hrr:Ext wr wr:=Ext.refl _
  by_cases hlt:k<T.n
  ·have hlt':(k:Int)<(T.n:Int):=by omega
   have hen:=hE8 k hlt
   have HW:=Lib.hid (show w.heap.size+1+1≤wr.heap.size by have:=hxr.le;rw [HS1.out] at this;exact this)
   go_wp2_with (first | (at_make;refine wpList_make_full _ rfl _ _ 151 rfl wr.heap.size 4 j0 (.bool false) 1 Tryz.underlying151 hj0 hy0 hy1 .i64 .i64 _ _ (T.en k+1) rfl rfl (by omega) (by omega) (by rw [hy2];omega) (by unfold maxLen;omega) (Nat.le_refl _) ?_;intro w3 hown3 hg3;have hx3:Ext wr w3:=(Below.refl _ _).grown hg3 (Nat.le_refl _) (by simp);have HR3:=Lib.hid (BRow.made hown3);clear hown3 hg3) | (at_builtin;refine wpList_append_own_at _ rfl _ _ 152 rfl (w.heap.size+1+1) 151 m0 (.slice none 0 0) 1 24 Tryz.underlying152 hm0 hm1 hm2 hm3 rfl (by decide) u5 k _ rfl (by exact ownsRow_same HI.out.own fun g e=>(hx3.alloc' _).block g (HI.out.vhi g e)) ⟨w3.heap.size,0,none⟩ 1 1 [.slice (some ⟨wr.heap.size,0,none⟩) (T.en k+1) (T.en k+1)] rfl rfl (by exact news_ok w3 [_] _) (by intro u hu;simp at hu;subst hu;rfl) (by unfold maxLen;omega) (by omega) (by have:=HW.out;have:=hx3.le;simp;omega) ?_;rintro v5 w5 hown5 hg5 - hat5;have H5:=Lib.hid (BoM.push HI.out HW.out hx3 HR3.out rfl (fun i=>bfF_nil k i) hown5 hg5 (by simpa using hat5));clear hown5 hg5 hat5))
   go_roundg (T.n - (k+1))
   case rel=>exact ⟨k+1,_,by omega,rfl,by go_num,Below.trans hxr (by have:=H5.out.2;rw [←HS1.out] at this;exact this),H5.out.1⟩
   case measure=>omega
  ·have hke:k=T.n:=by omega
   subst hke
   obtain ⟨g5,c5,hv5,hga,hgb,hgc⟩:=HI.out.form (by omega)
   subst hv5
   obtain ⟨p,i⟩:=x
   dsimp only at hx c1 ⊢
   have hBk:=HB.out wr hxw p i hx.1 hx.2
   go_upto_region 7 with (go_at_call 145;refine hBk.mono ?_;rintro e w6 ⟨v7,rfl,hown6,hx6⟩;have HO6:=Lib.hid hown6;clear hown6)
   have hxw6:=hxw.trans hx6
   obtain ⟨B,hI6⟩:∃ B,BfW T w B (.slice (some ⟨g5,0,none⟩) T.n c5) rb [] (T.toTr.bk (p,i)) v7 w6:=
    ⟨wr.heap.size,Hold.ext (Hold.ext K0.out hxr) hx6,HI.out.ext (Nat.le_refl _) hx6,by have:=Que.own HO6.out;rw [List.length_map] at this;exact this,hxw6,by have:=hxr.le;rw [HS1.out] at this;exact this,hx6.le⟩
   have HI6:=Lib.hid hI6
   have HP6:=Lib.hid (Tr.BfI.start (T:=T.toTr) (x:=(p,i)) hx)
   clear hI6 hBk hx6 hxr hrr l0 c0 l1 c1 hx11 hga hgb
   go_loopg [7] (T.toTr.bfM [] (T.toTr.bk (p,i))) (fun gg v7 wr=>∃ S q:List NN,gg=T.toTr.bfM S q∧gg≤T.toTr.bfM [] (T.toTr.bk (p,i))∧BfW T w B (.slice (some ⟨g5,0,none⟩) T.n c5) rb S q v7 wr∧T.toTr.BfI (p,i) S q)
   case atStart=>exact ⟨_,_,rfl,Nat.le_refl _,HI6.out,HP6.out⟩
   case round=>
    obtain ⟨S,q,rfl,hgm,hI,hP⟩:=hrel
    have hxr:=hI.bl
    have hrr:Ext wr wr:=Ext.refl _
    have HP:=Lib.hid hP
    have HI2:=Lib.hid hI
    have HG:=Lib.hid (show T.toTr.bfM S q≤2000 by
     have h1:=HME.out
     have h2:=T.toTr.bk_len (p,i)
     unfold Tr.bfM at hgm ⊢
     simp at hgm;omega)
    have HGM:=Lib.hid hgm
    cases q with
    | nil =>
     obtain ⟨ao,cp,hv⟩:∃ ao cp,u7=.slice ao 0 cp:=by
      rcases hI.qu.val with ⟨ao,h,_⟩ | ⟨g,off,cap,h,_⟩
      ·exact ⟨_,_,h⟩
      ·exact ⟨_,_,h⟩
     subst hv
     clear hI hP hgm
     go_wp2_with fail
     go_ret
     exact ⟨hxr,g5,c5,rb,bfF S,rfl,hgc,HI2.out.bo.at,fun k i=>by rw [bfF_succ,decide_eq_true_iff];exact HP.out.done (k,i)⟩
    | cons y q =>
     obtain ⟨yp,yi⟩:=y
     obtain ⟨hyp,hyi⟩:T.toTr.V (yp,yi):=(hP.qv _ (by simp)).V hP.hx
     dsimp only at hyp hyi
     have hey:=hE8 yp hyp
     obtain ⟨g,off,cap,hv,hgb,hgl,hcp,hcm,hcell,htail⟩:=Que.tail (n:=q.length) hI.qu
     subst hv
     have q0:∀ w',Ext wr w'→w'.cell? ⟨g,off,none⟩=some (.int .i64 yp):=fun w' h=>h.cell ((hcell 0 (by omega)).trans rfl)
     have q1:∀ w',Ext wr w'→w'.cell? ⟨g,off+1,none⟩=some (.int .i64 (yi+1)):=fun w' h=>h.cell ((hcell 1 (by omega)).trans rfl)
     have hgl':∀ w',Ext wr w'→g<w'.heap.size:=fun w' h=>Nat.lt_of_lt_of_le hgl h.le
     have hcp':1≤cap:=by omega
     have HTL:=Lib.hid htail
     clear hI hP hgm htail hcell
     go_upto_region 10 with fail
     refine boxed1 (w:=wr) (G:=fun x=>Code.wp _ _ _ _ x) ?_
     intro w5 hx5 hs5 ⟨l5,c5',_,k5⟩
     have hx55:Ext w5 w5:=Ext.refl _
     have hyb:=Lib.hid (show ∀ k,(Value.slice (if cap=1 then some (⟨g,off,none⟩:Addr) else some ⟨g,off+2,none⟩) q.length (cap - 1)).ownBlock=some k→k<wr.heap.size by
      intro k
      by_cases h1:cap=1
      ·rw [if_pos h1];intro e;simp [Value.ownBlock] at e;omega
      ·rw [if_neg h1];intro e;simp [Value.ownBlock] at e;omega)
     generalize Value.slice (if cap=1 then some (⟨g,off,none⟩:Addr) else some ⟨g,off+2,none⟩) q.length (cap - 1)=v1 at HTL hyb ⊢
     have HI5:=Lib.hid (show BfW T w B (.slice (some ⟨g5,0,none⟩) T.n c5) rb S q v1 w5 from ⟨(HI2.out.ext hx5).h0,(HI2.out.ext hx5).bo,HTL.out.ext hx5,(HI2.out.ext hx5).bl,HI2.out.lo,(HI2.out.ext hx5).hi⟩)
     have K5:=Lib.hid (show Hold w5 wr.heap.size _ from k5)
     have hg0:∀ w',Ext w5 w'→w'.cell? ⟨g5,yp,none⟩=some (.slice (some ⟨rb yp,0,none⟩) (T.en yp+1) (T.en yp+1)):=fun w' h=>h.cell (HI5.out.bo.at.c0 yp hyp)
     have hg1:∀ w',Ext w5 w'→g5<w'.heap.size:=fun w' h=>Nat.lt_of_lt_of_le HI5.out.bo.at.lt h.le
     have hg2:∀ w',Ext w5 w'→rb yp<w'.heap.size:=fun w' h=>Nat.lt_of_lt_of_le (HI5.out.bo.at.rl yp hyp) h.le
     have hyp':(yp:Int)<(T.n:Int):=by omega
     have hyi':(yi:Int)+1<(T.en yp:Int)+1:=by omega
     have hyi2:(yi:Int)<(T.en yp:Int):=by omega
     have hyi3:(0:Int)≤(yi:Int)+1:=by omega
     have hyi4:((yi:Int)+1).toNat=yi+1:=by omega
     have hyw:IntKind.i64.wrap ((yi:Int)+1)=(yi:Int)+1:=IntWalk.i64_in _ (by omega)
     clear q0 q1 hgl' HTL hgb hgl hcp hcm hcp' k5
     have hfz:∀ w',Ext w5 w'→w'.frozen? ⟨rb yp,yi+1,none⟩=false:=fun w' h=>(h.frozen (p:=⟨rb yp,yi+1,none⟩) (HI5.out.bo.at.rl yp hyp)).trans ((HI5.out.bo.row yp hyp).fr _)
     cases hS:bfF S yp (yi+1) with
     | true =>
      have hg3:∀ w',Ext w5 w'→w'.cell? ⟨rb yp,yi+1,none⟩=some (.bool true):=fun w' h=>h.cell ((HI5.out.bo.at.c1 yp (yi+1) hyp (by omega)).trans (by rw [hS]))
      have HS:=Lib.hid (show (yp,yi)∈S by rw [bfF_succ,decide_eq_true_iff] at hS;exact hS)
      clear hS hfz
      go_quiet (fail)
      go_wp2_with fail
      go_roundg (T.toTr.bfM S q)
      case rel=>exact ⟨S,q,rfl,Nat.le_trans (by unfold Tr.bfM;simp) HGM.out,HI5.out.ext (hx55.drewN _),HP.out.skip HS.out⟩
      case measure=>unfold Tr.bfM;simp
     | false =>
      have hg3:∀ w',Ext w5 w'→w'.cell? ⟨rb yp,yi+1,none⟩=some (.bool false):=fun w' h=>h.cell ((HI5.out.bo.at.c1 yp (yi+1) hyp (by omega)).trans (by rw [hS]))
      have HS:=Lib.hid (show (yp,yi)∉S by rw [bfF_succ,decide_eq_false_iff_not] at hS;exact hS)
      clear hS
      go_quiet (fail)
      go_upto_region 11 with fail
      refine drewdj (w:=w5) (G:=fun x=>Code.wp _ _ _ _ x) ?_
      intro w6 hx6
      have hx66:Ext w6 w6:=Ext.refl _
      have hxw6:=hxr.trans (hx5.trans hx6)
      refine wp_region_reads 8 (by kernel_rfl) (by kernel_rfl) ?_
      simp only [List.take_succ_cons,List.take_zero]
      repeat still_step
      refine wpStill_nil ?_
      refine wpAny_ready (rs:=[8]) (by kernel_rfl) (by simp) ?_
      refine AllReady.cons rfl (fun K hK=>?_) AllReady.nil
      go_simp
      refine hK _ _ ?_;clear hK K
      refine wpAny_done (by kernel_rfl) ?_ _
      go_upto_region 12 with fail
      refine setdr (w:=w6) (G:=fun x=>Code.wp _ _ _ _ x) ?_
      intro w7 hw7
      have hyB:=HI2.out.hi
      have hI7:BfW T w B (.slice (some ⟨g5,0,none⟩) T.n c5) rb ((yp,yi) :: S) q v1 w7:=by
       rw [hw7];exact ((HI5.out.ext hx6).set hyp hyi).ext (Ext.refl _).drew
      have hK7:Hold w7 wr.heap.size #[.int .i64 yp,.int .i64 (yi+1)]:=by
       rw [hw7];exact ((K5.out.ext hx6).other _ _ (by have:=HI2.out.bo.hi yp hyp;show wr.heap.size≠rb yp;omega)).drew
      have hs7:wr.heap.size<w7.heap.size:=hK7.lt
      have hx77:Ext w7 w7:=Ext.refl _
      have hxw7:=hI7.bl
      obtain ⟨l7,c7,_,_⟩:=hK7.box
      obtain ⟨l0,c0,_,_⟩:=hI7.h0.box
      have hBk:=HB.out w7 hxw7 yp yi hyp hyi
      have HI7:=Lib.hid hI7
      have HYB:=Lib.hid (show ∀ k,v1.ownBlock=some k→k<w7.heap.size from fun k e=>Nat.lt_trans (hyb.out k e) hs7)
      clear hI7 hK7 hw7 hg0 hg1 hg2 hg3 hfz hyb l5 c5' hx66 hxw6 hx6
      generalize wr.heap.size=yb at l7 c7 hs7 ⊢
      go_wp2_with (go_at_call 145;refine hBk.mono ?_;rintro e w8 ⟨v9,rfl,hown8,hx8⟩;have HO8:=Lib.hid hown8;clear hown8)
      obtain ⟨ll,hll⟩:∃ ll,ll=(T.toTr.bk (yp,yi)).map evI:=⟨_,rfl⟩
      rw [←hll] at HO8
      obtain ⟨a9,g9,c9,hv9,h9⟩:=HO8.out.shape
      subst hv9
      have H9:=Lib.hid h9
      have HLN:=Lib.hid (show ll.length=(T.toTr.bk (yp,yi)).length by rw [hll];exact List.length_map _)
      have HLL:=Lib.hid hll
      have hbl:=T.toTr.bk_len (yp,yi)
      have hLm:ll.length≤2:=by rw [HLN.out];exact hbl
      clear h9 hBk hll
      go_loopg [7,10] ll.length (fun gg v7 v10 wi=>∃ j:Nat,j≤ll.length∧gg=ll.length - j∧v10=.int .i64 j∧BfW T w B (.slice (some ⟨g5,0,none⟩) T.n c5) rb ((yp,yi) :: S) (q++(T.toTr.bk (yp,yi)).take j) v7 wi∧
       (0<ll.length→EvRow wi g9 ll.length (fun k=>ll.getD k (0,0))∧g9<wi.heap.size∧v7.ownBlock≠some g9))
      case atStart=>exact ⟨0,by omega,rfl,rfl,by rw [List.take_zero,List.append_nil];exact HI7.out.ext hx8,fun h0=>⟨(H9.out h0).2.2.2,(H9.out h0).2.2.1,fun e=>by have:=HYB.out _ e;have:=(H9.out h0).2.1;omega⟩⟩
      case round=>
       obtain ⟨j,hj,rfl,rfl,hI,hrow⟩:=hrel
       have hxi:=hI.bl
       have hii:Ext wr wr:=Ext.refl _
       have HI3:=Lib.hid hI
       have HROW:=Lib.hid hrow
       clear hI hrow
       by_cases hlt:j<ll.length
       ·obtain ⟨rfl,hga,_,_⟩:=H9.out (by omega)
        obtain ⟨hr9,hg9,hne9⟩:=HROW.out (by omega)
        have hjb:j<(T.toTr.bk (yp,yi)).length:=by rw [←HLN.out];exact hlt
        obtain ⟨z,hzz⟩:∃ z,z=(T.toTr.bk (yp,yi))[j]:=⟨_,rfl⟩
        have hgd:ll.getD j (0,0)=evI z:=by
         rw [HLL.out,List.getD_eq_getElem?_getD,List.getElem?_map,List.getElem?_eq_getElem hjb,hzz];rfl
        have e0:∀ w',Ext wr w'→w'.cell? ⟨g9,j*2,none⟩=some (.int .i64 z.1):=fun w' h=>h.cell ((hr9.c0 j hlt).trans (by rw [hgd]))
        have e1:∀ w',Ext wr w'→w'.cell? ⟨g9,j*2+1,none⟩=some (.int .i64 (z.2+1)):=fun w' h=>h.cell ((hr9.c1 j hlt).trans (by rw [hgd]))
        have l9:∀ w',Ext wr w'→g9<w'.heap.size:=fun w' h=>Nat.lt_of_lt_of_le hg9 h.le
        have hlt':(j:Int)<(ll.length:Int):=by omega
        have hlb':(j:Int)<((T.toTr.bk (yp,yi)).length:Int):=by omega
        have HTK:=Lib.hid (show (T.toTr.bk (yp,yi)).take (j+1)=(T.toTr.bk (yp,yi)).take j++[z] by rw [List.take_succ_eq_append_getElem hjb,hzz])
        have HR9:=Lib.hid (And.intro hr9 (And.intro hg9 hne9))
        have HQL:=Lib.hid (show (q++(T.toTr.bk (yp,yi)).take j).length≤2003 by
         have h1:=HG.out
         have h2:((T.toTr.bk (yp,yi)).take j).length≤j:=List.length_take_le _ _
         unfold Tr.bfM at h1
         rw [List.length_cons] at h1
         rw [List.length_append];omega)
        clear hr9 hg9 hne9 hzz hgd hga
        go_wp2_with (at_builtin;refine wpList_append_que _ rfl _ _ 68 68 rfl (base:=B) (e:=70) (size:=2) i0 (.agg #[.int .i64 0,.int .i64 0]) 16 Tryz.underlying68 hi0 hz0 hz1 hz2 rfl rfl (HI3.out.ext (Ext.alloc _ _)).qu (HI3.out.ext (Ext.alloc _ _)).hi (.slice (some ⟨wr.heap.size,0,none⟩) 1 1) 1 (evCells [((z.1:Int),(z.2:Int)+1)]) rfl ((Que.own (evOwn_one (base:=B) (g:=wr.heap.size) (x:=(z.1:Int)) (y:=(z.2:Int)+1) (by show (wr.heap.push _)[wr.heap.size]?=_;simp) HI3.out.hi)).src Tryz.underlying68 (evCells_one _)) (by have:=HQL.out;unfold maxLen;omega) (by have:=HQL.out;omega) ?_;rintro v10 w10 hq10 hg10 hat10;have H10:=Lib.hid (And.intro hq10 (And.intro hg10 hat10));clear hq10 hg10 hat10)
        go_roundg (ll.length - (j+1))
        case rel=>
         have h10:=H10.out
         refine ⟨j+1,by omega,rfl,by go_num,?_,fun _=>?_⟩
         ·rw [HTK.out,←List.append_assoc]
          exact HI3.out.grow (Ext.alloc _ _) h10.1 h10.2.1
         ·obtain ⟨hr9,hg9,hne9⟩:=HR9.out
          refine ⟨hr9.blk ?_,?_,?_⟩
          ·rw [h10.2.1.block g9 (by rw [World.size_alloc];omega) (fun h=>hne9 h.symm),Below.heap_alloc _ _ _ hg9]
          ·have:=h10.2.1.size;rw [World.size_alloc] at this;omega
          ·intro e
           rcases h10.2.2 with h8 | h8
           ·exact hne9 (h8▸e)
           ·rw [h8,World.size_alloc] at e;simp at e;omega
        case measure=>omega
       ·have hje:j=ll.length:=by omega
        subst hje
        go_wp2_with fail
        go_roundg (T.toTr.bfM ((yp,yi) :: S) (q++T.toTr.bk (yp,yi)))
        case rel=>exact ⟨_,_,rfl,Nat.le_trans (Nat.le_of_lt (HP.out.less HS.out)) HGM.out,by have:=HI3.out;rw [HLN.out,List.take_length] at this;exact this,HP.out.take HS.out⟩
        case measure=>exact HP.out.less HS.out
end Go.Proofs.YtlfdfkbmollaaaaGreatDoor
