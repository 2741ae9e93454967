/- Contracts and laws in plain Lean for RApp: group W63. -/
import Derived.Test.YtkhgpockmaghjaaGreatW51
import Derived.Test.YtkhgpockmaghjaaGreatW60
import Derived.Test.YtkhgpockmaghjaaGreatW62
import Derived.Test.YtkhgpockmaghjaaGreatW48
namespace Go.Proofs.YtkhgpockmaghjaaGreat
open Go.RowKit Go.Shelf
noncomputable def Tr.pnexts (T:Tr) (L:List Syn) (M:List (List Nat)):List (List Nat):=M.flatMap (T.pnext L)
noncomputable def Tr.ppart (T:Tr) (L:List Syn) (l:List Nat) (j:Nat):List (List Nat):=((T.pnL L (fn l) T.n).take j).map fun p=>rowOf T.n (upC (fn l) p)
theorem ppart_all (T:Tr) (L:List Syn) (l:List Nat):T.ppart L l (T.pnL L (fn l) T.n).length=T.pnext L l:=by unfold Tr.ppart Tr.pnext;rw [List.take_length]
theorem ppart_succ (T:Tr) (L:List Syn) (l:List Nat) {j:Nat} (h:j<(T.pnL L (fn l) T.n).length):T.ppart L l (j+1)=T.ppart L l j++[rowOf T.n (upC (fn l) (T.pnL L (fn l) T.n)[j])]:=by
 unfold Tr.ppart
 rw [List.take_add_one,List.getElem?_eq_getElem h,List.map_append];rfl
theorem ppart_len (T:Tr) (L:List Syn) (l:List Nat) (j:Nat):(T.ppart L l j).length≤j:=by
 unfold Tr.ppart;rw [List.length_map,List.length_take];omega
theorem pnexts_len (T:Tr) (L:List Syn):∀ M:List (List Nat),(T.pnexts L M).length≤T.n*M.length
 | [] => by simp [Tr.pnexts]
 | l :: M => by
  have h1:=pnexts_len T L M
  have h2:(T.pnext L l).length≤T.n:=by unfold Tr.pnext;rw [List.length_map];exact T.pnL_len _ _ _
  have e:T.pnexts L (l :: M)=T.pnext L l++T.pnexts L M:=by simp [Tr.pnexts]
  rw [e,List.length_append,List.length_cons,Nat.mul_add];omega
theorem pnexts_take {T:Tr} {L:List Syn} {R:List Row} {k:Nat} (hk:k<R.length):T.pnexts L ((R.take (k+1)).map Row.l)=T.pnexts L ((R.take k).map Row.l)++T.pnext L R[k].l:=by
 rw [List.take_add_one,List.getElem?_eq_getElem hk,List.map_append];unfold Tr.pnexts;rw [List.flatMap_append];simp
structure NqI (n:Nat) (wL:World) (Bn b:Nat) (v:Value) (RN:List Row) (M:List (List Nat)) (wr:World):Prop where
 q:RowsQ wr Bn v RN
 nd:(RN.map Row.l).Nodup
 m:∀ l,(∃ r∈RN,r.l=l)↔l∈M
 vl:∀ r∈RN,r.l.length=n∧∀ p,p<n→fn r.l p<256
 a:∀ x∈RN,v.ownBlock≠some x.g∧Bn≤x.g
 bb:∀ c,v.ownBlock=some c→c<wr.heap.size
 s:StrAt wr b (RN.map fun r=>keyB (fn r.l) n)
 len:RN.length≤M.length
 x:Ext wL wr
 h1:wL.heap.size≤b
 h2:b<Bn
 h3:Bn≤wr.heap.size
theorem NqI.ext {n:Nat} {wL:World} {Bn b:Nat} {v:Value} {RN:List Row} {M:List (List Nat)} {wr w':World} (h:NqI n wL Bn b v RN M wr) (x:Ext wr w'):NqI n wL Bn b v RN M w':=
 ⟨h.q.ext x,h.nd,h.m,h.vl,h.a,fun c e=>Nat.lt_of_lt_of_le (h.bb c e) x.le,h.s.ext x,h.len,h.x.trans x,h.h1,h.h2,Nat.le_trans h.h3 x.le⟩
theorem NqI.like {n:Nat} {wL:World} {Bn b:Nat} {v:Value} {RN:List Row} {M M':List (List Nat)} {wr:World} (h:NqI n wL Bn b v RN M wr) (e:M=M'):NqI n wL Bn b v RN M' wr:=e▸h
theorem NqI.nil {n:Nat} {wL:World}:NqI n wL (wL.heap.size+1) wL.heap.size (.slice none 0 0) [] [] (wL.alloc (.map #[] 0)):=
 ⟨RowsQ.nil _ _,List.nodup_nil,fun l=>⟨fun ⟨_,h,_⟩=>(by cases h),fun h=>(by cases h)⟩,fun r h=>(by cases h),fun x h=>(by cases h),fun c e=>(by cases e),StrAt.new wL,Nat.le_refl _,Ext.alloc _ _,Nat.le_refl _,Nat.lt_succ_self _,by rw [World.size_alloc];exact Nat.le_refl _⟩
theorem NqI.key {n:Nat} {wL:World} {Bn b:Nat} {v:Value} {RN:List Row} {M:List (List Nat)} {wr:World} (h:NqI n wL Bn b v RN M wr) {l:List Nat} (hl:l.length=n) (hv:∀ p,p<n→fn l p<256):keyB (fn l) n∈(RN.map fun r=>keyB (fn r.l) n)↔l∈M:=by
 rw [←h.m,List.mem_map]
 constructor
 ·rintro ⟨r,hr,e⟩
  obtain ⟨h1,h2⟩:=h.vl r hr
  exact ⟨r,hr,fn_ext (by rw [h1,hl]) fun p hp=>(keyB_eq h2 hv).1 e p (by omega)⟩
 ·rintro ⟨r,hr,rfl⟩;exact ⟨r,hr,rfl⟩
theorem NqI.skip {n:Nat} {wL:World} {Bn b:Nat} {v:Value} {RN:List Row} {M:List (List Nat)} {wr:World} (h:NqI n wL Bn b v RN M wr) {l:List Nat} (hl:l∈M):NqI n wL Bn b v RN (M++[l]) wr:=
 ⟨h.q,h.nd,fun x=>by rw [h.m];simp;rintro rfl;exact hl,h.vl,h.a,h.bb,h.s,by rw [List.length_append];exact Nat.le_trans h.len (Nat.le_add_right _ _),h.x,h.h1,h.h2,h.h3⟩
structure NqN (n:Nat) (wL:World) (Bn b:Nat) (v:Value) (RN:List Row) (M:List (List Nat)) (r:Row) (wr:World):Prop where
 q:RowsQ wr Bn v RN
 rA:r.At wr
 s:StrAt wr b ((RN.map fun r=>keyB (fn r.l) n)++[keyB (fn r.l) n])
 x:Ext wL wr
 bb:∀ c,v.ownBlock=some c→c<wr.heap.size
 h3:Bn≤wr.heap.size
 st:∃ W,NqI n wL Bn b v RN M W
theorem NqN.ext {n:Nat} {wL:World} {Bn b:Nat} {v:Value} {RN:List Row} {M:List (List Nat)} {r:Row} {wr w':World} (h:NqN n wL Bn b v RN M r wr) (x:Ext wr w'):NqN n wL Bn b v RN M r w':=
 ⟨h.q.ext x,h.rA.ext x,h.s.ext x,h.x.trans x,fun c e=>Nat.lt_of_lt_of_le (h.bb c e) x.le,Nat.le_trans h.h3 x.le,h.st⟩
theorem NqI.note {n : Nat} {wL : World} {Bn b : Nat} {v : Value} {RN : List Row} {M : List (List Nat)} {W : World} {o : Obj} {r : Row} (h : NqI n wL Bn b v RN M W) (hr : r.At W) (hg : Bn ≤ r.g)
    (hs:StrAt (W.putObj b o) b ((RN.map fun r=>keyB (fn r.l) n)++[keyB (fn r.l) n])):NqN n wL Bn b v RN M r (W.putObj b o):=by
 have hsz:(W.putObj b o).heap.size=W.heap.size:=by simp
 have hput:∀ k,k≠b→(W.putObj b o).heap[k]?=W.heap[k]?:=fun k hk=>World.putObj_heap_other hk
 have h2:=h.h2
 exact ⟨⟨h.q.1.same (by rw [hsz];exact Nat.le_refl _) fun g hg _=>hput g (by omega),fun x hx=>NumAt.blk (h.q.2 x hx) (hput x.g (by have:=(h.a x hx).2;omega)) (by rw [hsz];exact Nat.le_refl _)⟩,
  NumAt.blk hr (hput r.g (by omega)) (by rw [hsz];exact Nat.le_refl _),hs,h.x.putObj h.h1 o,fun c e=>by rw [hsz];exact h.bb c e,by rw [hsz];exact h.h3,⟨W,h⟩⟩
theorem NqN.push {n : Nat} {wL : World} {Bn b : Nat} {v v' : Value} {RN : List Row} {M : List (List Nat)} {r : Row} {W1 w' : World} (hN : NqN n wL Bn b v RN M r W1) (h0 : 0 < n) (hl : r.l.length = n) (hv : ∀ p, p < n → fn r.l p < 256) (hg : Bn ≤ r.g) (hne : v.ownBlock ≠ some r.g) (hno : r.l ∉ M)
    (hq:Que w' Bn 1 v' (RN.length+1) (RN.map Row.val++[r.val])) (hgr:W1.grownBy w' v.ownBlock) (ho:v'.ownBlock=v.ownBlock∨v'.ownBlock=some W1.heap.size):NqI n wL Bn b v' (RN++[r]) (M++[r.l]) w':=by
 obtain ⟨hQ,hR,hS,hX,_,h3,⟨W,h⟩⟩:=hN
 have h2:=h.h2
 have ha:∀ x∈RN++[r],v.ownBlock≠some x.g∧Bn≤x.g:=fun x hx=>by
  rcases List.mem_append.1 hx with k | k
  ·exact h.a x k
  ·obtain rfl:=List.mem_singleton.1 k;exact ⟨hne,hg⟩
 have hA:∀ x∈RN++[r],x.At W1:=fun x hx=>(List.mem_append.1 hx).elim (hQ.2 x) fun k=>by obtain rfl:=List.mem_singleton.1 k;exact hR
 have hvl:∀ x∈RN++[r],x.l.length=n∧∀ p,p<n→fn x.l p<256:=fun x hx=>(List.mem_append.1 hx).elim (h.vl x) fun k=>by obtain rfl:=List.mem_singleton.1 k;exact ⟨hl,hv⟩
 have hp:∀ x∈RN++[r],0<x.l.length:=fun x hx=>by rw [(hvl x hx).1];exact h0
 refine ⟨RowsQ.app hQ (fun x hx=>by obtain rfl:=List.mem_singleton.1 hx;exact hR) hp (fun x hx=>(ha x hx).1) hq hgr,?_,fun l=>?_,hvl,fun x hx=>⟨RowsQ.app_apart hA hp (fun x hx=>(ha x hx).1) ho x hx,(ha x hx).2⟩,Que.own_lt hq (Nat.succ_pos _),?_,by rw [List.length_append,List.length_append];have:=h.len;simp only [List.length_cons,List.length_nil];omega,Below.grown hX hgr hX.le (fun g e=>by have:=h.q.1.block g e;have:=h.h1;omega),h.h1,h.h2,Nat.le_trans h3 hgr.size⟩
 ·rw [List.map_append,List.nodup_append]
  refine ⟨h.nd,by simp,fun x hx y hy e=>?_⟩
  have hy':y=r.l:=by simpa using hy
  subst e
  obtain ⟨z,hz,hzl⟩:=List.mem_map.1 hx
  exact hno ((h.m _).1 ⟨z,hz,by rw [hzl,hy']⟩)
 ·constructor
  ·rintro ⟨x,hx,rfl⟩
   rcases List.mem_append.1 hx with k | k
   ·exact List.mem_append_left _ ((h.m _).1 ⟨x,k,rfl⟩)
   ·obtain rfl:=List.mem_singleton.1 k;simp
  ·intro k
   rcases List.mem_append.1 k with k | k
   ·obtain ⟨x,hx,e⟩:=(h.m _).2 k;exact ⟨x,List.mem_append_left _ hx,e⟩
   ·exact ⟨r,by simp,(by simpa using k:l=r.l).symm⟩
 ·rw [List.map_append]
  exact hS.same (hgr.block b hS.lt fun e=>by have:=h.q.1.block b e.symm;omega)
theorem NqI.slice {n:Nat} {wL:World} {Bn b:Nat} {v:Value} {RN:List Row} {M:List (List Nat)} {wr:World} (h:NqI n wL Bn b v RN M wr):∃ a c,v=.slice a RN.length c:=h.q.1.slice
structure NqK (w9:World) (eg:Nat) (v:Value) (wi:World):Prop where
 blk:wi.heap[eg]?=w9.heap[eg]?
 sz:w9.heap.size≤wi.heap.size
 own:v.ownBlock≠some eg
theorem NqK.ext {w9:World} {eg:Nat} {v:Value} {wi w':World} (h:NqK w9 eg v wi) (hl:eg<wi.heap.size) (x:Ext wi w'):NqK w9 eg v w':=⟨(x.block eg hl).trans h.blk,Nat.le_trans h.sz x.le,h.own⟩
theorem NqK.put {w9:World} {eg b:Nat} {v:Value} {wi:World} (h:NqK w9 eg v wi) (hb:eg≠b) (o:Obj):NqK w9 eg v (wi.putObj b o):=⟨(World.putObj_heap_other hb).trans h.blk,by simpa using h.sz,h.own⟩
theorem NqK.grown {w9:World} {eg:Nat} {v v':Value} {wi w':World} (h:NqK w9 eg v wi) (hl:eg<wi.heap.size) (hg:wi.grownBy w' v.ownBlock) (ho:v'.ownBlock=v.ownBlock∨v'.ownBlock=some wi.heap.size):NqK w9 eg v' w':=
 ⟨(hg.block eg hl fun e=>h.own e.symm).trans h.blk,Nat.le_trans h.sz hg.size,fun e=>by
  rcases ho with h1 | h1
  ·exact h.own (h1▸e)
  ·rw [h1] at e
   have:wi.heap.size=eg:=by simpa using e
   omega⟩
theorem sorted_strict {n:Nat}:∀ {R:List Row},R.Pairwise (fun a b=>¬lexP n (fn b.l) (fn a.l))→(R.map Row.l).Nodup→(∀ r∈R,r.l.length=n)→R.Pairwise fun a b=>lexP n (fn a.l) (fn b.l)
 | [],_,_,_ => List.Pairwise.nil
 | r :: R,h,hn,hl => by
  rw [List.pairwise_cons] at h
  rw [List.map_cons,List.nodup_cons] at hn
  refine List.pairwise_cons.2 ⟨fun x hx=>?_,sorted_strict h.2 hn.2 fun y hy=>hl y (List.mem_cons_of_mem _ hy)⟩
  by_cases he:∀ q,q<n→fn r.l q=fn x.l q
  ·exact absurd (List.mem_map.2 ⟨x,hx,(fn_ext (by rw [hl r (by simp),hl x (by simp [hx])]) fun p hp=>he p (by rw [hl r (by simp)] at hp;exact hp)).symm⟩) hn.1
  ·exact (lexP_total he).resolve_right (h.1 x hx)
attribute [local go_sem] Oper.semAt_some
theorem keyB_congr {c d:Nat→Nat} {n:Nat} (h:∀ p,p<n→c p=d p):keyB c n=keyB d n:=by
 unfold keyB
 congr 2
 exact List.map_congr_left fun p hp=>by rw [h p (List.mem_range.1 hp)]
theorem keyB_row (n:Nat) (c:Nat→Nat):keyB (fn (rowOf n c)) n=keyB c n:=keyB_congr fun _ hp=>fn_rowOf hp
structure PLs (T:Tr) (L:List Syn) (w1:World) (k B:Nat) (v4 v5:Value) (RL RO:List Row) (wr:World):Prop where
 q4:RowsH wr B v4 RL
 r4:∀ x∈RL,x.At wr
 q5:RowsQ wr w1.heap.size v5 RO
 hx:Ext w1 wr
 hB:w1.heap.size≤B∧B≤wr.heap.size
 g4:∀ x∈RL,B≤x.g
 o5:∀ g,v5.ownBlock=some g→g<B
 a5:∀ x∈RO,v5.ownBlock≠some x.g
 s4:RL.Pairwise (Row.bef T.n)
 m4:∀ l,(∃ x∈RL,x.l=l)↔(PCutL T L l∧tot (fn l) T.n=k)
 s5:RO.Pairwise (Row.bef T.n)
 m5:∀ l,(∃ x∈RO,x.l=l)↔(PCutL T L l∧tot (fn l) T.n<k)
 n4:RL.length≤40000
 n5:RO.length≤5000
structure PLo (T:Tr) (L:List Syn) (w1:World) (k B:Nat) (v4 v6:Value) (RL RO:List Row) (w6:World):Prop where
 q4:RowsH w6 B v4 RL
 r4:∀ x∈RL,x.At w6
 q5:RowsQ w6 w1.heap.size v6 (RO++RL)
 hx:Ext w1 w6
 o5:∀ g,v6.ownBlock=some g→g<w6.heap.size
 a5:∀ x∈RO++RL,v6.ownBlock≠some x.g
 s5:(RO++RL).Pairwise (Row.bef T.n)
 m4:∀ l,(∃ x∈RL,x.l=l)↔(PCutL T L l∧tot (fn l) T.n=k)
 m5:∀ l,(∃ x∈RO++RL,x.l=l)↔(PCutL T L l∧tot (fn l) T.n<k+1)
theorem RowsH.own {w:World} {B:Nat} {v:Value} {R:List Row} (h:RowsH w B v R) (h0:0<R.length):∃ g off cap,v=.slice (some ⟨g,off,none⟩) R.length cap∧B≤g∧g<w.heap.size∧∀ j (hj:j<R.length),w.cell? ⟨g,off+j,none⟩=some R[j].val:=by
 rcases h with ⟨rfl,_⟩ | ⟨g,off,cap,h1,h2,h3,h4,h5⟩
 ·exact absurd h0 (Nat.lt_irrefl _)
 ·exact ⟨g,off,cap,h1,h3,h4,fun j hj=>(h5 j hj).1⟩
theorem PLs.out {T:Tr} {L:List Syn} {w1:World} {k B:Nat} {v4 v5 v6:Value} {RL RO:List Row} {wr w6:World} (h:PLs T L w1 k B v4 v5 RL RO wr) (hn1:0<T.n) (h0:0<RL.length) (hq:Que w6 w1.heap.size 1 v6 (RO.length+RL.length) (RO.map Row.val++RL.map Row.val)) (hg:wr.grownBy w6 v5.ownBlock) (ho:v6.ownBlock=v5.ownBlock∨v6.ownBlock=some wr.heap.size):PLo T L w1 k B v4 v6 RL RO w6:=by
 have hpos:∀ x∈RO++RL,0<x.l.length:=fun x hx=>by
  have h1:PCutL T L x.l:=(List.mem_append.1 hx).elim (fun h'=>((h.m5 _).1 ⟨x,h',rfl⟩).1) (fun h'=>((h.m4 _).1 ⟨x,h',rfl⟩).1)
  rw [h1.1];exact hn1
 have hap:∀ x∈RO++RL,v5.ownBlock≠some x.g:=fun x hx=>by
  rcases List.mem_append.1 hx with h' | h'
  ·exact h.a5 x h'
  ·intro e
   have h1:=h.o5 _ e
   have h2:=h.g4 x h'
   omega
 have hR:=RowsQ.app h.q5 h.r4 hpos hap hq hg
 refine ⟨?_,fun x hx=>NumAt.blk (h.r4 x hx) (hg.block x.g (NumAt.pb (h.r4 x hx) (hpos x (List.mem_append_right _ hx))) (fun e=>hap x (List.mem_append_right _ hx) e.symm)) hg.size,hR,h.hx.below.grown hg h.hx.le (fun g e=>h.q5.1.block g e),Que.own_lt hq (by omega),RowsQ.app_apart (fun x hx=>(List.mem_append.1 hx).elim (h.q5.2 x) (h.r4 x)) hpos hap ho,List.pairwise_append.2 ⟨h.s5,h.s4,fun x hx y hy=>.inl (by
  have h1:=((h.m5 _).1 ⟨x,hx,rfl⟩).2
  have h2:=((h.m4 _).1 ⟨y,hy,rfl⟩).2
  show tot (fn x.l) T.n<tot (fn y.l) T.n
  omega)⟩,h.m4,fun l=>?_⟩
 ·rcases h.q4 with h1 | ⟨g,off,cap,h1,h2,h3,h4,h5⟩
  ·exact .inl h1
  ·have hb:=hg.block g h4 fun e=>by have:=h.o5 g e.symm;omega
   exact .inr ⟨g,off,cap,h1,h2,h3,Nat.lt_of_lt_of_le h4 hg.size,fun j hj=>⟨(World.cell?_of_block (w:=wr) (a:=⟨g,off+j,none⟩) hb).trans (h5 j hj).1,(World.frozen?_of_block (w:=wr) (a:=⟨g,off+j,none⟩) hb).trans (h5 j hj).2⟩⟩
 ·constructor
  ·rintro ⟨x,hx,rfl⟩
   rcases List.mem_append.1 hx with h' | h'
   ·have h1:=(h.m5 _).1 ⟨x,h',rfl⟩;exact ⟨h1.1,by omega⟩
   ·have h1:=(h.m4 _).1 ⟨x,h',rfl⟩;exact ⟨h1.1,by omega⟩
  ·rintro ⟨h1,h2⟩
   by_cases e:tot (fn l) T.n=k
   ·obtain ⟨x,hx,hl⟩:=(h.m4 l).2 ⟨h1,e⟩;exact ⟨x,List.mem_append_right _ hx,hl⟩
   ·obtain ⟨x,hx,hl⟩:=(h.m5 l).2 ⟨h1,by omega⟩;exact ⟨x,List.mem_append_left _ hx,hl⟩
theorem PLo.next {T : Tr} {L : List Syn} {w1 : World} {k B b Bn : Nat} {v4 v6 vn : Value} {RL RO RN R5 : List Row} {w6 wr w' : World} (h : PLo T L w1 k B v4 v6 RL RO w6) (hV : T.Valid) (hL : SynOk T L) (hA : T.NoCyc L) (h5 : (RO ++ RL).length ≤ 5000)
    (hN:NqI T.n w6 Bn b vn RN (T.pnexts L (RL.map Row.l)) wr) (hp:R5.Perm RN) (hs:R5.Pairwise (fun a b=>¬lexP T.n (fn b.l) (fn a.l))) (ho:OnlyIn wr w' Bn vn) (hh:RowsH w' Bn vn R5):PLs T L w1 (k+1) Bn vn v6 R5 (RO++RL) w':=by
 have hx6:Ext w6 w':=Below.trans hN.x.below (Below.mono ho.below (by have:=hN.h1;have:=hN.h2;omega))
 have hin:∀ x∈R5,x∈RN:=fun x hx=>hp.mem_iff.1 hx
 have hm:∀ l,(∃ x∈R5,x.l=l)↔(PCutL T L l∧tot (fn l) T.n=k+1):=fun l=>by
  have h1:(∃ x∈R5,x.l=l)↔∃ x∈RN,x.l=l:=⟨fun ⟨x,hx,e⟩=>⟨x,hin x hx,e⟩,fun ⟨x,hx,e⟩=>⟨x,hp.mem_iff.2 hx,e⟩⟩
  rw [h1,hN.m]
  refine Iff.trans ?_ (plevel_next hV hL hA (P:=fun l=>∃ x∈RL,x.l=l) h.m4 l)
  unfold Tr.pnexts
  rw [List.mem_flatMap]
  constructor
  ·rintro ⟨y,hy,h6⟩
   obtain ⟨a,ha,rfl⟩:=List.mem_map.1 hy
   exact ⟨a.l,⟨a,ha,rfl⟩,h6⟩
  ·rintro ⟨_,⟨a,ha,rfl⟩,h6⟩;exact ⟨a.l,List.mem_map.2 ⟨a,ha,rfl⟩,h6⟩
 have hlen:∀ x∈R5,x.l.length=T.n:=fun x hx=>(hN.vl x (hin x hx)).1
 have hnd:(R5.map Row.l).Nodup:=(hp.map Row.l).nodup_iff.2 hN.nd
 have hst:=sorted_strict hs hnd hlen
 have hn1:=hV.n1
 have hn8:=hV.n8
 refine ⟨hh,fun x hx=>ho.row (hN.q.2 x (hin x hx)) (by rw [hlen x hx];exact hn1) (hN.a x (hin x hx)).1,h.q5.ext hx6,h.hx.trans hx6,⟨by have:=h.hx.le;have:=hN.h1;have:=hN.h2;omega,by have:=hN.h3;have:=ho.size;omega⟩,fun x hx=>(hN.a x (hin x hx)).2,fun g e=>by have:=h.o5 g e;have:=hN.h1;have:=hN.h2;omega,h.a5,?_,hm,h.s5,h.m5,?_,h5⟩
 ·refine List.Pairwise.imp_of_mem ?_ hst
  intro a c ha hc hac
  have h1:=((hm _).1 ⟨a,ha,rfl⟩).2
  have h2:=((hm _).1 ⟨c,hc,rfl⟩).2
  exact .inr ⟨by omega,hac⟩
 ·have h1:=hN.len
  have h2:=pnexts_len T L (RL.map Row.l)
  rw [List.length_map] at h2
  have h3:T.n*RL.length≤8*RL.length:=Nat.mul_le_mul_right _ hn8
  rw [List.length_append] at h5
  rw [hp.length_eq];omega
def PCutsPost (T:Tr) (L:List Syn) (w:World) (e:Ending) (w':World):Prop:=Ext w w'∧((∃ r:Int,PFault T L True False r∧r≠0∧e=.returned (.tuple #[.slice none 0 0,.int .i64 r]))∨
 (PFault T L True False 0∧((∃ v R,e=.returned (.tuple #[v,.int .i64 0])∧RowsQ w' w.heap.size v R∧IsPCuts T L (R.map Row.l)∧R.length≤5000)∨
 (e=.returned (.tuple #[.slice none 0 0,.int .i64 16])∧∃ M:List (List Nat),M.Pairwise (fun a b=>befP T.n (fn a) (fn b))∧(∀ l∈M,PCutL T L l)∧5000<M.length))))
set_option maxRecDepth 100000 in
set_option maxHeartbeats 8000000 in
theorem pcuts_any (w : World) (T : TM) (hT : T.At w) (hn : T.n ≤ 1000) (D : SyD) (hD : D.At w) :
    Calls Tryz.prog 25 #[T.val,.slice D.s.a D.s.n D.s.c] w (PCutsPost T.toTr D.l w):=by
 obtain ⟨j0,hj0,hy0,hy1,hy2⟩:=info_parts infoInts1
 have HIN:=Lib.hid (fun W=>initial_any W T hn)
 have HCK:=Lib.hid (fun W (h:Ext w W) g (hr:IntRow W g T.n (fun _=>0))=>(show Calls Tryz.prog 48 #[T.val,.slice D.s.a D.s.n D.s.c,.slice (some ⟨g,0,none⟩) T.n T.n] W (fun e w'=>Ext W w'∧∃ r:Int,e=.returned (.int .i64 r)∧PFault T.toTr D.l True False r) from
  (check_any W T (hT.ext h) D (hD.ext h) (some ⟨g,0,none⟩) g 0 T.n T.n (fun _=>0) (hr.num (by omega))).mono fun e w' ⟨hx,r,he,hf⟩=>⟨hx,r,he,hf.zero⟩))
 have HEN:=Lib.hid (fun W (h:Ext w W) (hV:T.toTr.Valid) (hL:SynOk T.toTr D.l) g o cap (c:Nat→Nat) (hC:NumAt W T.n (some ⟨g,o,none⟩) g o (natV c)) (hc:∀ p,p<T.n→c p≤T.en p)=>enabled_any W T (hT.ext h) hV D (hD.ext h) hL (some ⟨g,o,none⟩) g o cap c hC hc)
 unfold PCutsPost
 obtain ⟨ta,hta⟩:∃ z,z=T.a:=⟨_,rfl⟩
 obtain ⟨da,hda⟩:∃ z,z=D.s.a:=⟨_,rfl⟩
 obtain ⟨dn,hdn⟩:∃ z,z=D.s.n:=⟨_,rfl⟩
 simp only [TM.val,←hta] at HIN HCK HEN ⊢
 rw [←hda,←hdn] at HCK HEN
 rw [←hda,←hdn]
 clear hT hD hta hda hdn
 go_enter Tryz.func25,Tryz.ntmps25
 go_upto_region 1 with fail
 refine boxed1 (w:=w) (G:=fun x=>Code.wp _ _ _ _ x) ?_
 intro w1 hx1 hs1 ⟨l0,c0,_,_⟩
 clear hs1
 refine wp_region_held_drew (S:=fun w'=>Ext w1 w') (by kernel_rfl) (Ext.refl _).drew (fun hHeld=>?_)
 refine hQ 0 (v:=?_) rfl (y:=.inl ⟨by rfl,?_⟩) (h:=?_)
 rotate_left
 ·(intro w' hSw;(try dsimp only at hSw);have hSS:=Ext.refl w';go_simp;try with_reducible rfl)
 try simp only [Act.put,zA,zB,zC]
 refine hQ 1 (v:=?_) rfl (y:=.inl ⟨by rfl,?_⟩) (h:=?_)
 rotate_left
 ·(intro w' hSw;(try dsimp only at hSw);have hSS:=Ext.refl w';go_simp;try with_reducible rfl)
 try simp only [Act.put,zA,zB,zC]
 refine hQ 2 (v:=?_) rfl (y:=.inl ⟨by rfl,?_⟩) (h:=?_)
 rotate_left
 ·(intro w' hSw;(try dsimp only at hSw);have hSS:=Ext.refl w';go_simp;try with_reducible rfl)
 try simp only [Act.put,zA,zB,zC]
 refine wpAnyH_ready (rs:=[3]) (by kernel_rfl) (by simp) ?_
 refine AllReadyH.cons rfl (fun K hK=>?_) AllReadyH.nil
 go_simp
 go_at_call 49
 refine (HIN.out w1.drew).mono ?_
 rintro e w2 ⟨hx2,g,rfl,hr,-⟩
 have hx12:Ext w1 w2:=(Ext.refl w1).drew.trans hx2
 refine hK.out _ _ ?_ (fun hHeld2=>?_)
 ·exact hx12
 clear hK K
 try simp only [Act.put,zA,zB,zC]
 have hck:=HCK.out w2 (hx1.trans hx12) g hr
 refine wpAnyH_ready (rs:=[4]) (by kernel_rfl) (by simp) ?_
 refine AllReadyH.cons rfl (fun K hK=>?_) AllReadyH.nil
 go_simp
 go_at_call 48
 refine hck.mono ?_
 rintro e w3 ⟨hx3,r,rfl,hf⟩
 have hx13:=hx12.trans hx3
 refine hK.out _ _ ?_ (fun hHeld3=>?_)
 ·exact hx13
 clear hK K
 try simp only [Act.put,zA,zB,zC]
 have HF:=Lib.hid hf
 clear hf hck hr
 refine hQ 5 (v:=?_) rfl (y:=.inl ⟨by rfl,?_⟩) (h:=?_)
 rotate_left
 ·(intro w' hSw;(try dsimp only at hSw);have hSS:=Ext.refl w';go_simp;try with_reducible rfl)
 try simp only [Act.put,zA,zB,zC]
 refine wpAnyH_done (by kernel_rfl) ?_ _
 clear hHeld hHeld2 hHeld3 hx2 hx3 hx12
 have hxw3:=hx1.trans hx13
 by_cases h0:r=0
 case neg=>
  have d0:(r == 0)=false:=by simpa using h0
  have H0:=Lib.hid h0
  clear h0
  go_wp2_with fail
  go_ret2
  exact ⟨hxw3,.inl ⟨r,HF.out,H0.out,rfl⟩⟩
 subst h0
 obtain ⟨⟨hV,_⟩,_,hL,_,hA⟩:=HF.out.ok
 have HV:=Lib.hid hV
 have HL:=Lib.hid hL
 have HA:=Lib.hid hA
 have hn8:=hV.n8
 have hn1:=hV.n1
 clear hV hL hA
 go_upto_region 5 with (go_at_call 49;refine (HIN.out w3).mono ?_;rintro e w4 ⟨hx4,g4,rfl,hr4,hg4⟩)
 have HR4:=Lib.hid hr4
 have HG4:=Lib.hid hg4
 have hx14:=hx13.trans hx4
 clear hr4 hg4
 refine boxed1 (w:=w4) (G:=fun x=>Code.wp _ _ _ _ x) ?_
 intro w5 hx5 hs5 ⟨l5,c5,f5,k5⟩
 have hx15:=hx14.trans hx5
 have HST:=Lib.hid (show PLs T.toTr D.l w1 0 w3.heap.size (.slice (some ⟨w4.heap.size,0,none⟩) 1 1) (.slice none 0 0) [⟨List.replicate T.n 0,some ⟨g4,0,none⟩,g4,0,T.n⟩] [] w5 from by
  have hf0:∀ p,fn (List.replicate T.n 0) p=0:=fun p=>by unfold fn;rw [List.getD_eq_getElem?_getD,List.getElem?_replicate];split <;> rfl
  have hz:tot (fun _=>0) T.n=0:=by
   have:∀ n,tot (fun _=>0) n=0:=fun n=>by induction n with | zero=>rfl | succ n ih=>exact ih
   exact this _
  have hc0:PCutL T.toTr D.l (List.replicate T.n 0):=⟨List.length_replicate,(PCut.zero HL.out).congr HL.out fun p _=>hf0 p⟩
  refine ⟨.inr ⟨w4.heap.size,0,1,rfl,Nat.le_refl _,hx4.le,l5 w5 (Ext.refl _),fun j hj=>?_⟩,fun x hx=>?_,RowsQ.nil _ _,hx15,⟨hx13.le,by have:=hx4.le;have:=hx5.le;omega⟩,fun x hx=>?_,fun g e=>(by cases e),fun x hx=>(by cases hx),List.pairwise_singleton _ _,fun l=>?_,List.Pairwise.nil,fun l=>⟨fun ⟨x,hx,_⟩=>(by cases hx),fun h=>absurd h.2 (Nat.not_lt_zero _)⟩,by show 1≤40000;omega,by show 0≤5000;omega⟩
  ·obtain rfl:j=0:=by have:j<1:=hj;omega
   refine ⟨(c5 w5 (Ext.refl _) 0).trans ?_,f5 w5 (Ext.refl _) 0⟩
   show some (Value.slice _ _ _)=some (Value.slice _ (List.replicate T.n 0).length _)
   rw [List.length_replicate];rfl
  ·obtain rfl:=List.mem_singleton.1 hx
   show NumAt w5 (List.replicate T.n 0).length _ g4 0 (natV (fn (List.replicate T.n 0)))
   rw [List.length_replicate]
   have h1:=(HR4.out.ext hx5).num (by omega)
   exact ⟨h1.hn,h1.pa,h1.pb,fun p hp=>by rw [h1.c p hp];show some (Value.int .i64 0)=some (Value.int .i64 ((fn (List.replicate T.n 0) p:Nat):Int));rw [hf0];rfl⟩
  ·obtain rfl:=List.mem_singleton.1 hx
   exact HG4.out
  ·constructor
   ·rintro ⟨x,hx,rfl⟩
    obtain rfl:=List.mem_singleton.1 hx
    exact ⟨hc0,(totS_congr fun p _=>hf0 p).trans hz⟩
   ·rintro ⟨h1,h2⟩
    refine ⟨_,List.mem_singleton.2 rfl,fn_ext (by rw [h1.1,List.length_replicate]) fun p hp=>?_⟩
    have hp':p<T.n:=by simpa using hp
    have h3:=tot_same (f:=fun _=>0) (g:=fn l) (n:=T.n) (fun _ _=>Nat.zero_le _) (by rw [hz,h2]) p hp'
    show fn (List.replicate T.n 0) p=fn l p
    rw [hf0];exact h3)
 clear hs5 l5 c5 f5 k5 hx5 hx14 hx15 hx4 hxw3 hx13
 go_wp2_with fail
 go_loopg [7,8] (tot T.en T.n+2) (fun gg v4 v5 wr=>∃ (k B:Nat) (RL RO:List Row),gg=tot T.en T.n+2 - k∧PLs T.toTr D.l w1 k B v4 v5 RL RO wr)
 case atStart=>exact ⟨0,_,_,[],rfl,HST.out⟩
 case round=>
  obtain ⟨k,B,RL,RO,rfl,hI⟩:=hrel
  obtain ⟨a4,c4,rfl⟩:=hI.q4.slice
  obtain ⟨a5,c5,rfl⟩:=hI.q5.1.slice
  have hx1r:=hI.hx
  have hxr:=hx1.trans hx1r
  obtain ⟨ln,hln⟩:∃ z,z=RL.length:=⟨_,rfl⟩
  obtain ⟨lo,hlo⟩:∃ z,z=RO.length:=⟨_,rfl⟩
  have hl4:=hI.n4
  have hl5:=hI.n5
  rw [←hln] at hI hl4 ⊢
  rw [←hlo] at hI hl5 ⊢
  have HLN:=Lib.hid hln
  have HLO:=Lib.hid hlo
  have HI:=Lib.hid hI
  clear hI hln hlo HST
  by_cases h0:0<ln
  case neg=>
   obtain rfl:ln=0:=by omega
   have HFI:=Lib.hid (show IsPCuts T.toTr D.l (RO.map Row.l) from by
    refine ⟨bef_map.2 HI.out.s5,fun l=>⟨fun hl=>?_,fun hl=>?_⟩⟩
    ·obtain ⟨x,hx,rfl⟩:=List.mem_map.1 hl
     exact ((HI.out.m5 _).1 ⟨x,hx,rfl⟩).1
    ·have hn0 : ∀ l, ¬ (PCutL T.toTr D.l l ∧ tot (fn l) T.n = k) := fun l h => by
       obtain ⟨x,hx,_⟩:=(HI.out.m4 l).2 h
       have h2:RL=[]:=List.eq_nil_of_length_eq_zero HLN.out.symm
       rw [h2] at hx;cases hx
     have h2:tot (fn l) T.n<k:=Nat.lt_of_not_le fun hle=>plevel_none HV.out HL.out HA.out hn0 (tot (fn l) T.n - k) l hl (by omega)
     obtain ⟨x,hx,rfl⟩:=(HI.out.m5 l).2 ⟨hl,h2⟩
     exact List.mem_map.2 ⟨x,hx,rfl⟩)
   go_wp2_with fail
   go_ret2
   exact ⟨hxr,.inr ⟨HF.out,.inl ⟨_,RO,rfl,HI.out.q5.mono hx1.le,HFI.out,HI.out.n5⟩⟩⟩
  have h0':(0:Int)<(ln:Int):=by omega
  have HKL:=Lib.hid (show k≤tot T.en T.n from by
   have h1:RL[0]'(by rw [←HLN.out];exact h0)∈RL:=List.getElem_mem _
   have h2:=(HI.out.m4 _).1 ⟨_,h1,rfl⟩
   rw [←h2.2]
   exact totS_le fun p hp=>h2.1.2.cut.le p hp)
  go_upto_region 8 with (at_builtin;refine wpList_append_que _ rfl _ _ 47 47 rfl (base:=w1.heap.size) (e:=39) (size:=1) j0 (.slice none 0 0) 24 Tryz.underlying47 hj0 hy0 hy1 hy2 rfl rfl (v:=.slice a5 lo c5) (n:=lo) (xs:=RO.map Row.val) (by have h1:=HI.out.q5.1;rw [←HLO.out] at h1;exact h1) (by have:=hx1r.le;omega) (.slice a4 ln c4) ln (RL.map Row.val) rfl (by have h1:=HI.out.q4.src;rw [←HLN.out] at h1;exact h1) (by unfold maxLen;omega) (by omega) ?_;rintro v6 w6 hq6 hg6 ho6)
  have HO:=Lib.hid (HI.out.out hn1 (by rw [←HLN.out];exact h0) (by rw [←HLO.out,←HLN.out];exact hq6) hg6 ho6)
  obtain ⟨a6,c6,rfl⟩:=hq6.slice
  clear hq6 hg6 ho6 hx1r hxr HI
  have hx16:=HO.out.hx
  have hxw6:=hx1.trans hx16
  by_cases hbig:5000<lo+ln
  case pos=>
   have hbig':(5000:Int)<((lo+ln:Nat):Int):=by omega
   have hbig'':(5000:Int)<(lo:Int)+(ln:Int):=by omega
   go_wp2_with fail
   go_ret2
   exact ⟨hxw6,.inr ⟨HF.out,.inr ⟨rfl,(RO++RL).map Row.l,bef_map.2 HO.out.s5,fun l hl=>by obtain ⟨x,hx,rfl⟩:=List.mem_map.1 hl;exact ((HO.out.m5 _).1 ⟨x,hx,rfl⟩).1,by rw [List.length_map,List.length_append,←HLO.out,←HLN.out];exact hbig⟩⟩⟩
  have hbig':¬(5000:Int)<((lo+ln:Nat):Int):=by omega
  have hbig'':¬(5000:Int)<(lo:Int)+(ln:Int):=by omega
  have HBG:=Lib.hid (show (RO++RL).length≤5000 from by rw [List.length_append,←HLO.out,←HLN.out];omega)
  have hln5:ln≤5000:=by omega
  have hmm:=@run_makeMap Tryz.prog
  go_upto_region 11 with fail
  have hq0:=NqI.nil (n:=T.n) (wL:=w6)
  obtain ⟨b,hb⟩:∃ z,z=w6.heap.size:=⟨_,rfl⟩
  rw [←hb] at hq0 ⊢
  generalize w6.alloc (.map #[] 0)=w7 at hq0 ⊢
  have hx67:=hq0.x
  have hx17:=hx16.trans hx67
  have HQ0:=Lib.hid hq0
  have HB:=Lib.hid hb
  clear hq0 hmm hb
  go_wp2_with fail
  go_loopg [10,40] ln (fun gg v10 v40 wr=>∃ (i:Nat) (RN:List Row),i≤ln∧gg=ln - i∧v40=.int .i64 i∧NqI T.n w6 (b+1) b v10 RN (T.toTr.pnexts D.l ((RL.take i).map Row.l)) wr)
  case atStart=>exact ⟨0,[],by omega,rfl,rfl,HQ0.out⟩
  case round=>
   rename World=>wr
   obtain ⟨i,RN,hi,rfl,rfl,hN⟩:=hrel
   obtain ⟨a10,c10,rfl⟩:=hN.slice
   have hx6r:=hN.x
   have hx1r:=hx16.trans hx6r
   have hxwr:=hx1.trans hx1r
   obtain ⟨lr,hlr⟩:∃ z,z=RN.length:=⟨_,rfl⟩
   have HLR:=Lib.hid hlr
   rw [←hlr] at hN ⊢
   have HN:=Lib.hid hN
   clear hN hlr HQ0 hx67 hx17
   by_cases hli:i<ln
   case neg=>
    obtain rfl:i=ln:=by omega
    have HNA:=Lib.hid (show NqI T.n w6 (b+1) b (.slice a10 lr c10) RN (T.toTr.pnexts D.l (RL.map Row.l)) wr from HN.out.like (by rw [List.take_of_length_le (by rw [←HLN.out];exact Nat.le_refl _)]))
    have HRN:=Lib.hid (fun x (hx:x∈RN)=>(HNA.out.vl x hx).1)
    have HLE:=Lib.hid (show RN.length≤1000000 from by
     have h1:=HNA.out.len
     have h2:=pnexts_len T.toTr D.l (RL.map Row.l)
     rw [List.length_map,←HLN.out] at h2
     have h3:T.n*i≤8*i:=Nat.mul_le_mul_right _ hn8
     omega)
    have hsort:=rsort_rows (w:=wr) (base:=b+1) (v:=.slice a10 lr c10) (R:=RN) (n:=T.n) HNA.out.q HNA.out.h3 HLE.out HRN.out hn1 (fun x hx=>(HNA.out.a x hx).1) 68 (enters_of Tryz.func68 (by kernel_rfl) rfl) (fun W r s hr hs h1 h2=>by
     have hr':NumAt W T.n r.a r.g r.o (natV (fn r.l)):=by have:=h1;unfold Row.At at this;rw [HRN.out _ hr] at this;exact this
     have hs':NumAt W T.n s.a s.g s.o (natV (fn s.l)):=by have:=h2;unfold Row.At at this;rw [HRN.out _ hs] at this;exact this
     have h3:=cmpr_any W r.a s.a r.g r.o s.g s.o T.n r.c s.c (fn r.l) (fn s.l) hr' hs'
     unfold Row.val;rw [HRN.out _ hr,HRN.out _ hs];exact h3)
    clear HN
    go_upto_region 27 with (go_at_call 67;refine hsort.mono ?_;rintro e w9 ⟨rfl,R5,hp5,hs5,ho5,hh5⟩)
    have HNX:=Lib.hid (HO.out.next HV.out HL.out HA.out HBG.out HNA.out hp5 hs5 ho5 hh5)
    clear hsort hp5 hs5 ho5 hh5
    go_wp2_with fail
    go_roundg (tot T.en T.n+2 - (k+1))
    case rel=>exact ⟨k+1,b+1,R5,RO++RL,rfl,HNX.out⟩
    case measure=>have:=HKL.out;omega
   have hli':(i:Int)<(ln:Int):=by omega
   have hiR:i<RL.length:=by rw [←HLN.out];exact hli
   obtain ⟨gb,go',cb,hv4,hgb1,hgb,hcell0⟩:=HO.out.q4.own (by omega)
   rw [←HLN.out] at hv4
   simp only [Value.slice.injEq] at hv4
   obtain ⟨rfl,_,rfl⟩:=hv4
   obtain ⟨r,hr⟩:∃ r,r=RL[i]:=⟨_,rfl⟩
   have HRM:=Lib.hid ((HO.out.m4 _).1 ⟨RL[i],List.getElem_mem hiR,rfl⟩)
   have HRA:=Lib.hid (HO.out.r4 RL[i] (List.getElem_mem hiR))
   have hcell:=hcell0 i hiR
   have HRE:=Lib.hid hr
   rw [←hr] at HRM HRA hcell
   obtain ⟨l,hl'⟩:∃ z,z=r.l:=⟨_,rfl⟩
   obtain ⟨ra,hra⟩:∃ z,z=r.a:=⟨_,rfl⟩
   obtain ⟨g,hg⟩:∃ z,z=r.g:=⟨_,rfl⟩
   obtain ⟨o,ho⟩:∃ z,z=r.o:=⟨_,rfl⟩
   obtain ⟨rc,hrc⟩:∃ z,z=r.c:=⟨_,rfl⟩
   have HLL:=Lib.hid (show PCutL T.toTr D.l l from by rw [hl'];exact HRM.out.1)
   have HRN:=Lib.hid (show NumAt w6 T.n ra g o (natV (fn l)) from by
    have h1:=HRA.out
    unfold Row.At at h1
    rw [HRM.out.1.1,←hra,←hg,←ho,←hl'] at h1;exact h1)
   obtain rfl:ra=some ⟨g,o,none⟩:=HRN.out.pa (by omega)
   have vcell:∀ w',Ext w6 w'→w'.cell? ⟨gb,go'+i,none⟩=some (.slice (some ⟨g,o,none⟩) T.n rc):=fun w' x=>by
    rw [x.cell hcell]
    unfold Row.val
    rw [HRM.out.1.1,←hra,←hrc]
   have vb:∀ w',Ext w6 w'→gb<w'.heap.size:=fun w' x=>Nat.lt_of_lt_of_le hgb x.le
   have HRL:=Lib.hid (show T.toTr.pnexts D.l ((RL.take (i+1)).map Row.l)=T.toTr.pnexts D.l ((RL.take i).map Row.l)++T.toTr.pnext D.l l from by rw [pnexts_take hiR,hl',HRE.out])
   have hen:=HEN.out wr hxwr HV.out HL.out g o rc (fn l) (HRN.out.ext hx6r) (fun p hp=>HLL.out.2.cut.le p hp)
   clear hcell0 hcell hr hl' hra hg ho hrc HRM HRA hgb1
   obtain ⟨pn,hpn⟩:∃ z,z=T.toTr.pnL D.l (fn l) T.n:=⟨_,rfl⟩
   obtain ⟨m,hm⟩:∃ z,z=pn.length:=⟨_,rfl⟩
   have hm8:m≤8:=by rw [hm,hpn];have:=T.toTr.pnL_len D.l (fn l) T.n;omega
   rw [←hpn,←hm] at hen
   have HPI:=Lib.hid (fun j (h:j<pn.length)=>(show pn[j]<T.n∧fn l pn[j]<T.en pn[j]∧PCut T.toTr D.l (upC (fn l) pn[j]) from by
    have h1:pn[j]∈T.toTr.pnL D.l (fn l) T.n:=by rw [←hpn];exact List.getElem_mem h
    exact Tr.mem_pnL.1 h1))
   have HPA:=Lib.hid (show T.toTr.ppart D.l l m=T.toTr.pnext D.l l from by rw [hm,hpn];exact ppart_all _ _ _)
   have HPS:=Lib.hid (fun j (h:j<pn.length)=>(show T.toTr.ppart D.l l (j+1)=T.toTr.ppart D.l l j++[rowOf T.n (upC (fn l) pn[j])] from by
    subst hpn;exact ppart_succ _ _ _ h))
   have HML:=Lib.hid hm
   clear hpn hm
   go_upto_region 16 with (go_at_call 64;refine hen.mono ?_;rintro e w9 ⟨ve,rfl,hqe,hxe⟩;obtain ⟨ea,eg,eo,ec,rfl,_,hep,hec⟩:=Que.cells1 hqe)
   have HEP:=Lib.hid hep
   have HEC:=Lib.hid hec
   have HN9:=Lib.hid (show NqI T.n w6 (b+1) b (.slice a10 lr c10) RN (T.toTr.pnexts D.l ((RL.take i).map Row.l)++T.toTr.ppart D.l l 0) w9∧(0<m→NqK w9 eg (.slice a10 lr c10) w9) from
    ⟨(HN.out.ext hxe).like (by show _=_++[];rw [List.append_nil]),fun h0=>⟨rfl,Nat.le_refl _,fun e=>by have h1:=HN.out.bb eg e;have h2:=(HEP.out h0).2.1;omega⟩⟩)
   have HX69:=Lib.hid (hx6r.trans hxe)
   have HBE:=Lib.hid (show 0<m→b+1≤eg from fun h=>Nat.le_trans HN.out.h3 (HEP.out h).2.1)
   clear hqe hep hec hen hxe hx1r hxwr
   go_loopg [10,49] m (fun gg v10 v49 wi=>∃ (j:Nat) (RI:List Row),j≤m∧gg=m - j∧v49=.int .i64 j∧NqI T.n w6 (b+1) b v10 RI (T.toTr.pnexts D.l ((RL.take i).map Row.l)++T.toTr.ppart D.l l j) wi∧(0<m→NqK w9 eg v10 wi))
   case atStart=>exact ⟨0,RN,by omega,rfl,rfl,HN9.out.1,HN9.out.2⟩
   case round=>
    rename World=>wi
    obtain ⟨j,RI,hj,rfl,rfl,hN,hK⟩:=hrel
    obtain ⟨a11,c11,rfl⟩:=hN.slice
    have hx6i:=hN.x
    have hx1i:=hx16.trans hx6i
    have hxwi:=hx1.trans hx1i
    have HLI5:=Lib.hid (show RI.length≤40008 from by
     have h1:=hN.len
     have h2:=pnexts_len T.toTr D.l ((RL.take i).map Row.l)
     have h3:T.n*((RL.take i).map Row.l).length≤8*5000:=by
      refine Nat.mul_le_mul hn8 ?_
      rw [List.length_map,List.length_take];omega
     have h4:=ppart_len T.toTr D.l l j
     rw [List.length_append] at h1;omega)
    obtain ⟨li,hli2⟩:∃ z,z=RI.length:=⟨_,rfl⟩
    have hli40:li≤40008:=by rw [hli2];exact HLI5.out
    have HLI:=Lib.hid hli2
    rw [←hli2] at hN hK ⊢
    have HN:=Lib.hid hN
    have HK:=Lib.hid hK
    clear hN hK hli2 HN9
    by_cases hjm:j<m
    case neg=>
     obtain rfl:j=m:=by omega
     have HNK:=Lib.hid (show NqI T.n w6 (b+1) b (.slice a11 li c11) RI (T.toTr.pnexts D.l ((RL.take (i+1)).map Row.l)) wi from HN.out.like (by rw [HPA.out,HRL.out]))
     go_wp2_with fail
     go_roundg (ln - (i+1))
     case rel=>exact ⟨i+1,RI,by omega,rfl,by go_num,HNK.out⟩
     case measure=>omega
    have hjm':(j:Int)<(m:Int):=by omega
    have hjp:j<pn.length:=by rw [←HML.out];exact hjm
    have h0m:0<m:=by omega
    obtain ⟨rfl,heg1,heg2⟩:=HEP.out h0m
    obtain ⟨p,hp⟩:∃ z,z=pn[j]:=⟨_,rfl⟩
    have hpf:=HPI.out j hjp
    have hps:=HPS.out j hjp
    rw [←hp] at hpf hps
    have HPF:=Lib.hid hpf
    have HPN:=Lib.hid hps
    have hpn:p<T.n:=hpf.1
    have HK0:=Lib.hid (HK.out h0m)
    have eb:∀ w',Ext wi w'→eg<w'.heap.size:=fun w' x=>Nat.lt_of_lt_of_le (Nat.lt_of_lt_of_le heg2 HK0.out.sz) x.le
    have ecell:∀ w',Ext wi w'→w'.cell? ⟨eg,eo+j,none⟩=some (.int .i64 (p:Int)):=fun w' x=>by
     refine x.cell ((World.cell?_of_block (w:=w9) (a:=⟨eg,eo+j,none⟩) HK0.out.blk).trans ?_)
     rw [HEC.out j hjm,natInts_get (i:=j) (v:=p) (by rw [hp];exact List.getElem?_eq_getElem hjp)]
    have hii:Ext wi wi:=Ext.refl _
    obtain ⟨cp,hcp⟩:∃ z,z=fn l p:=⟨_,rfl⟩
    have HCP:=Lib.hid hcp
    have hcp64:cp<64:=by have h1:=hpf.2.1;have h2:=HV.out.en64 hpn;rw [hcp];show fn l p<64;have h3:fn l p<T.toTr.en p:=h1;omega
    have hw1:IntKind.i64.wrap ((cp:Int)+1)=(cp:Int)+1:=IntWalk.i64_in _ (by omega)
    clear hp hpf hps hcp heg1 heg2
    go_upto_region 19 with (go_at_call 65;refine (clonen_any wi g o T.n rc (natV (fn l)) (HRN.out.ext hx6i) (by omega) hn1).mono ?_;rintro e w11 ⟨g5,o5,c5',rfl,q1,q2,q3,hx11⟩)
    have HQ3:=Lib.hid q3
    have l5:∀ w',Ext w11 w'→g5<w'.heap.size:=fun w' x=>Nat.lt_of_lt_of_le q2 x.le
    have k5:∀ w',Ext w11 w'→w'.cell? ⟨g5,o5+p,none⟩=some (.int .i64 (cp:Int)):=fun w' x=>by rw [HCP.out];exact x.cell (HQ3.out p hpn).1
    have f5:∀ w',Ext w11 w'→w'.frozen? ⟨g5,o5+p,none⟩=false:=fun w' x=>(x.frozen (p:=⟨g5,o5+p,none⟩) q2).trans (HQ3.out p hpn).2
    have h11:Ext w11 w11:=Ext.refl _
    have HG5:=Lib.hid (And.intro q1 q2)
    clear q3 q1 q2
    go_upto_region 20 with fail
    refine setm1 (G:=fun x=>Code.wp _ _ _ _ x) ?_
    intro w12 hw12
    have HX12:=Lib.hid (show Ext wi w12 from by rw [hw12];exact hx11.setCell HG5.out.1 _)
    have HN12:=Lib.hid (show NumAt w12 T.n (some ⟨g5,o5,none⟩) g5 o5 (natV (upC (fn l) p)) from by
     refine ⟨by omega,fun _=>rfl,fun _=>by rw [hw12,World.size_setCell];exact HG5.out.2,fun q hq=>?_⟩
     rw [hw12]
     by_cases e:q=p
     ·subst e
      refine (World.cell?_setCell_same _ _ _ (HQ3.out q hq).1).trans ?_
      show _=some (Value.int .i64 ((upC (fn l) q q:Nat):Int))
      rw [upC_same,HCP.out];rfl
     ·refine Eq.trans (World.cell?_setCell_other _ _ _ _ fun h9=>?_) ((HQ3.out q hq).1.trans ?_)
      ·simp only [Addr.mk.injEq] at h9;omega
      ·show some (Value.int .i64 ((fn l q:Nat):Int))=some (Value.int .i64 ((upC (fn l) p q:Nat):Int))
       rw [upC_other e])
    have hxi12:=HX12.out
    have hx112:=hx1i.trans hxi12
    have H256:=Lib.hid (show ∀ q,q<T.n→upC (fn l) p q<256 from fun q hq=>by
     have h1:=HPF.out.2.2.cut.le q hq
     have h2:=HV.out.en64 hq
     omega)
    have hky:=key_any w12 g5 o5 T.n c5' (upC (fn l) p) HN12.out (by omega) hn1 H256.out
    obtain ⟨y,hy⟩:∃ z,z=keyB (upC (fn l) p) T.n:=⟨_,rfl⟩
    rw [←hy] at hky
    have HY:=Lib.hid hy
    clear hw12 l5 k5 f5 h11 hy hx11
    go_upto_region 21 with (go_at_call 66;refine hky.mono ?_;rintro e w13 ⟨rfl,hx13⟩)
    have HX13:=Lib.hid (hxi12.trans hx13)
    have H13:=Lib.hid (HN.out.ext HX13.out)
    have HK13:=Lib.hid (HK0.out.ext (Nat.lt_of_lt_of_le (HEP.out h0m).2.2 HK0.out.sz) HX13.out)
    have HKY:=Lib.hid (H13.out.key (l:=rowOf T.n (upC (fn l) p)) (rowOf_len _ _) (fun q hq=>by rw [fn_rowOf hq];exact H256.out q hq))
    have hlk:=run_lookup_str H13.out.s y
    by_cases hin:rowOf T.n (upC (fn l) p)∈T.toTr.pnexts D.l ((RL.take i).map Row.l)++T.toTr.ppart D.l l j
    case pos=>
     rw [show inS y (RI.map fun r=>keyB (fn r.l) T.n)=true from inS_iff.2 (by rw [HY.out,←keyB_row];exact HKY.out.2 hin)] at hlk
     have HSK:=Lib.hid (show NqI T.n w6 (b+1) b (.slice a11 li c11) RI (T.toTr.pnexts D.l ((RL.take i).map Row.l)++T.toTr.ppart D.l l (j+1)) w13 from by
      rw [HPN.out,←List.append_assoc];exact H13.out.skip hin)
     clear hky hin
     go_wp2_with fail
     go_roundg (m - (j+1))
     case rel=>exact ⟨j+1,RI,by omega,rfl,by go_num,HSK.out,fun _=>HK13.out⟩
     case measure=>omega
    have HIN2:=Lib.hid hin
    rw [show inS y (RI.map fun r=>keyB (fn r.l) T.n)=false from by
     rw [Bool.eq_false_iff];intro h9;exact HIN2.out (HKY.out.1 (by rw [keyB_row,←HY.out];exact inS_iff.1 h9))] at hlk
    obtain ⟨ob,hup,hst⟩:=run_update_str H13.out.s y (fun h9=>HIN2.out (HKY.out.1 (by rw [keyB_row,←HY.out];exact h9)))
    have HR13:=Lib.hid (show Row.At ⟨rowOf T.n (upC (fn l) p),some ⟨g5,o5,none⟩,g5,o5,c5'⟩ w13 from by
     show NumAt w13 (rowOf T.n (upC (fn l) p)).length _ g5 o5 (natV (fn (rowOf T.n (upC (fn l) p))))
     rw [rowOf_len]
     have h1:=HN12.out.ext hx13
     exact ⟨h1.hn,h1.pa,h1.pb,fun q hq=>by rw [h1.c q hq];show some (Value.int .i64 ((upC (fn l) p q:Nat):Int))=some (Value.int .i64 ((fn (rowOf T.n (upC (fn l) p)) q:Nat):Int));rw [fn_rowOf hq]⟩)
    have HG5B:=Lib.hid (show b+1≤g5 from by have:=HN.out.h3;have:=HG5.out.1;omega)
    have HG5O:=Lib.hid (show (Value.slice a11 li c11).ownBlock≠some g5 from fun e=>by have h1:=HN.out.bb g5 e;have:=HG5.out.1;omega)
    have HNT:=Lib.hid (H13.out.note (o:=ob) HR13.out HG5B.out (by show StrAt _ b (_++[keyB (fn (rowOf T.n (upC (fn l) p))) T.n]);rw [keyB_row,←HY.out];exact hst))
    have HK14:=Lib.hid (HK13.out.put (b:=b) (by have:=HBE.out h0m;omega) ob)
    have HE14:=Lib.hid (show eg<(w13.putObj b ob).heap.size from by have h1:=(HEP.out h0m).2.2;have h2:=HK14.out.sz;omega)
    clear hst hky hin
    go_upto_region 23 with fail
    generalize w13.putObj b ob=w14 at HNT HK14 HE14 ⊢
    have hx6w:=HNT.out.x
    go_upto_region 24 with (at_builtin;go_loud (refine wpList_append_que _ rfl _ _ 47 47 rfl (base:=b+1) (e:=39) (size:=1) j0 (.slice none 0 0) 24 Tryz.underlying47 hj0 hy0 hy1 hy2 rfl rfl (v:=.slice a11 li c11) (n:=li) (xs:=RI.map Row.val) (by have h1:=(HNT.out.ext (Ext.alloc w14 (.cells #[.slice (some ⟨g5,o5,none⟩) T.n c5'] 39))).q.1;rw [←HLI.out] at h1;exact h1) (by rw [World.size_alloc];have:=HNT.out.h3;omega) (.slice (some ⟨w14.heap.size,0,none⟩) 1 1) 1 [.slice (some ⟨g5,o5,none⟩) T.n c5'] rfl (by exact Src.ofSlice _ Tryz.underlying47 ⟨w14.heap.size,0,none⟩ 1 1 _ rfl (news_ok w14 _ _) (by intro u hu;simp at hu;subst hu;rfl)) (by unfold maxLen;omega) (by omega) ?_;rintro v15 w15 hq15 hg15 ho15))
    have HNF:=Lib.hid (show NqI T.n w6 (b+1) b v15 (RI++[⟨rowOf T.n (upC (fn l) p),some ⟨g5,o5,none⟩,g5,o5,c5'⟩]) (T.toTr.pnexts D.l ((RL.take i).map Row.l)++T.toTr.ppart D.l l (j+1)) w15 from by
     rw [HPN.out,←List.append_assoc]
     refine (HNT.out.ext (Ext.alloc w14 (.cells #[.slice (some ⟨g5,o5,none⟩) T.n c5'] 39))).push hn1 (rowOf_len _ _) (fun q hq=>by show fn (rowOf T.n (upC (fn l) p)) q<256;rw [fn_rowOf hq];exact H256.out q hq) HG5B.out HG5O.out HIN2.out ?_ hg15 ho15
     rw [←HLI.out]
     show Que w15 _ 1 v15 (li+1) (RI.map Row.val++[.slice (some ⟨g5,o5,none⟩) (rowOf T.n (upC (fn l) p)).length c5'])
     rw [rowOf_len];exact hq15)
    have HKF:=Lib.hid ((HK14.out.ext HE14.out (Ext.alloc w14 (.cells #[.slice (some ⟨g5,o5,none⟩) T.n c5'] 39))).grown (by rw [World.size_alloc];have:=HE14.out;omega) hg15 ho15)
    clear hq15 hg15 ho15
    go_wp2_with fail
    go_roundg (m - (j+1))
    case rel=>exact ⟨j+1,_,by omega,rfl,by go_num,HNF.out,fun _=>HKF.out⟩
    case measure=>omega
end Go.Proofs.YtkhgpockmaghjaaGreat
