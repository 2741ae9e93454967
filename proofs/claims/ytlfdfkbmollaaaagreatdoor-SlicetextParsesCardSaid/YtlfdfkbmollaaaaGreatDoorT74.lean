/- Contracts and laws in plain Lean for RApp: group T74. -/
import Derived.Test.YtlfdfkbmollaaaaGreatDoorT73
import Derived.Test.YtlfdfkbmollaaaaGreatDoorT40
import Derived.Test.YtlfdfkbmollaaaaGreatDoorT70
import Derived.Test.YtlfdfkbmollaaaaGreatDoorT67
import Derived.Test.YtlfdfkbmollaaaaGreatDoorT72
import Derived.Test.YtlfdfkbmollaaaaGreatDoorT36
import Derived.Deep.CutRange
import Derived.Laws.EntriesVeiled
set_option maxRecDepth 100000
namespace Go.Proofs.YtlfdfkbmollaaaaGreatDoor
open Go.RowKit
def lxE (x y:EvE):Prop:=x.1<y.1∨(x.1=y.1∧x.2<y.2)
theorem lxE_trans {x y z:EvE} (h:lxE x y) (k:lxE y z):lxE x z:=by unfold lxE at *;omega
theorem lxE_asymm {x y:EvE} (h:lxE x y):¬lxE y x:=by unfold lxE at *;omega
theorem mem_ownP {u:Nat→Int} {p m:Nat} {x:EvE}:x∈ownP u p m↔∃ k,k<m∧x=((p:Int),u p+1+(k:Int)):=by
 simp only [ownP,List.mem_map,List.mem_range]
 exact ⟨fun ⟨k,h1,h2⟩=>⟨k,h1,h2.symm⟩,fun ⟨k,h1,h2⟩=>⟨k,h1,h2.symm⟩⟩
theorem mem_ownL {u v:Nat→Int} {x:EvE}:∀ {n:Nat},x∈ownL u v n↔∃ p k:Nat,p<n∧k<(v p - u p).toNat∧x=((p:Int),u p+1+(k:Int))
 | 0 => by simp [ownL]
 | n+1 => by
  unfold ownL
  rw [List.mem_append,mem_ownL (n:=n),mem_ownP]
  constructor
  ·rintro (⟨p,k,h1,h2,h3⟩ | ⟨k,h2,h3⟩)
   ·exact ⟨p,k,by omega,h2,h3⟩
   ·exact ⟨n,k,by omega,h2,h3⟩
  ·rintro ⟨p,k,h1,h2,h3⟩
   by_cases e:p=n
   ·subst e;exact .inr ⟨k,h2,h3⟩
   ·exact .inl ⟨p,k,by omega,h2,h3⟩
theorem ownP_sorted {u:Nat→Int} {p:Nat}:∀ {m:Nat},(ownP u p m).Pairwise lxE
 | 0 => by simp [ownP]
 | m+1 => by
  rw [ownP_succ]
  refine List.pairwise_append.2 ⟨ownP_sorted,List.pairwise_singleton _ _,fun x hx y hy=>?_⟩
  obtain ⟨k,h1,rfl⟩:=mem_ownP.1 hx
  obtain rfl:=List.mem_singleton.1 hy
  refine .inr ⟨rfl,?_⟩
  show u p+1+(k:Int)<u p+1+(m:Int)
  omega
theorem ownL_sorted {u v:Nat→Int}:∀ {n:Nat},(ownL u v n).Pairwise lxE
 | 0 => by simp [ownL]
 | n+1 => by
  unfold ownL
  refine List.pairwise_append.2 ⟨ownL_sorted,ownP_sorted,fun x hx y hy=>?_⟩
  obtain ⟨p,k,h1,h2,rfl⟩:=mem_ownL.1 hx
  obtain ⟨l,h3,rfl⟩:=mem_ownP.1 hy
  refine .inl ?_
  show (p:Int)<(n:Int)
  omega
theorem sorted_uniq {α:Type} {R:α→α→Prop} (has:∀ x y,R x y→¬R y x):∀ {l m:List α},l.Pairwise R→m.Pairwise R→(∀ x,x∈l↔x∈m)→l=m
 | [],[],_,_,_ => rfl
 | [],b :: m,_,_,h => absurd ((h b).2 (List.mem_cons_self ..)) (by simp)
 | a :: l,[],_,_,h => absurd ((h a).1 (List.mem_cons_self ..)) (by simp)
 | a :: l,b :: m,h1,h2,h => by
  obtain ⟨a1,a2⟩:=List.pairwise_cons.1 h1
  obtain ⟨b1,b2⟩:=List.pairwise_cons.1 h2
  have hab:a=b:=by
   rcases List.mem_cons.1 ((h a).1 (List.mem_cons_self ..)) with e | e
   ·exact e
   ·rcases List.mem_cons.1 ((h b).2 (List.mem_cons_self ..)) with e2 | e2
    ·exact e2.symm
    ·exact absurd (b1 a e) (has _ _ (a1 b e2))
  subst hab
  refine congrArg (a :: ·) (sorted_uniq has a2 b2 fun x=>⟨fun hx=>?_,fun hx=>?_⟩)
  ·rcases List.mem_cons.1 ((h x).1 (List.mem_cons_of_mem _ hx)) with e | e
   ·subst e;exact absurd (a1 x hx) (fun h=>has _ _ h h)
   ·exact e
  ·rcases List.mem_cons.1 ((h x).2 (List.mem_cons_of_mem _ hx)) with e | e
   ·subst e;exact absurd (b1 x hx) (fun h=>has _ _ h h)
   ·exact e
def orI (x y:Int):Int:=if (x != 0)=true then x else y
noncomputable def cfE (n:Nat) (E:EvE→List Nat) (x y:EvE):Int:=orI (Lib.compareInt (tot (fn (E x)) n:Nat) (tot (fn (E y)) n:Nat)) (cmpN n (fn (E x)) (fn (E y)))
def LE (n:Nat) (E:EvE→List Nat) (x y:EvE):Prop:=befP n (fn (E x)) (fn (E y))∨(E x=E y∧lxE x y)
section
variable {n:Nat} {E:EvE→List Nat}
theorem cfE_neg {x y:EvE}:cfE n E x y<0↔befP n (fn (E x)) (fn (E y)):=by
 unfold cfE orI Lib.compareInt befP
 rcases Nat.lt_trichotomy (tot (fn (E x)) n) (tot (fn (E y)) n) with h | h | h
 ·rw [if_pos (show ((tot (fn (E x)) n:Nat):Int)<(tot (fn (E y)) n:Nat) by omega),if_pos (by decide)]
  exact ⟨fun _=>.inl h,fun _=>by decide⟩
 ·rw [if_neg (show ¬((tot (fn (E x)) n:Nat):Int)<(tot (fn (E y)) n:Nat) by omega),if_neg (show ¬((tot (fn (E x)) n:Nat):Int) > (tot (fn (E y)) n:Nat) by omega),if_neg (by decide),cmpN_neg]
  exact ⟨fun k=>.inr ⟨h,k⟩,fun k=>k.elim (fun k=>absurd k (by omega)) And.right⟩
 ·rw [if_neg (show ¬((tot (fn (E x)) n:Nat):Int)<(tot (fn (E y)) n:Nat) by omega),if_pos (show ((tot (fn (E x)) n:Nat):Int) > (tot (fn (E y)) n:Nat) by omega),if_pos (by decide)]
  exact ⟨fun k=>absurd k (by decide),fun k=>by rcases k with k | k <;> omega⟩
theorem cfE_same {x y:EvE} (h:E x=E y):cfE n E x y=0:=by
 unfold cfE
 rw [h]
 unfold orI Lib.compareInt
 rw [if_neg (Int.lt_irrefl _),if_neg (Int.lt_irrefl _),if_neg (by decide)]
 exact cmpN_eq fun _ _=>rfl
theorem befP_len {l m:List Nat} (hl:l.length=n) (hm:m.length=n):l=m∨befP n (fn l) (fn m)∨befP n (fn m) (fn l):=by
 by_cases e:∀ q,q<n→fn l q=fn m q
 ·exact .inl (fn_ext (by omega) fun p hp=>e p (by omega))
 ·exact .inr (befP_total e)
theorem cmpN_zero {u v:Nat→Nat} (h:cmpN n u v=0):¬lexP n u v∧¬lexP n v u:=by
 refine ⟨fun k=>?_,fun k=>?_⟩
 ·rw [cmpN_lt k] at h;exact absurd h (by decide)
 ·rw [cmpN_gt k] at h;exact absurd h (by decide)
theorem cfE_zero {x y:EvE} (hx:(E x).length=n) (hy:(E y).length=n):cfE n E x y=0↔E x=E y:=by
 refine ⟨fun h=>?_,cfE_same⟩
 have h1:¬cfE n E x y<0:=by omega
 rw [cfE_neg] at h1
 rcases befP_len hx hy with e | e | e
 ·exact e
 ·exact absurd e h1
 ·exfalso
  unfold cfE orI Lib.compareInt at h
  rcases e with e | ⟨e,e2⟩
  ·rw [if_neg (show ¬((tot (fn (E x)) n:Nat):Int)<(tot (fn (E y)) n:Nat) by omega),if_pos (show ((tot (fn (E x)) n:Nat):Int) > (tot (fn (E y)) n:Nat) by omega),if_pos (by decide)] at h
   exact absurd h (by decide)
  ·rw [if_neg (show ¬((tot (fn (E x)) n:Nat):Int)<(tot (fn (E y)) n:Nat) by omega),if_neg (show ¬((tot (fn (E x)) n:Nat):Int) > (tot (fn (E y)) n:Nat) by omega),if_neg (by decide)] at h
   exact (cmpN_zero h).2 e2
theorem ordE {A:EvE→Prop} (hA:∀ x,A x→(E x).length=n):OrdE A (cfE n E) (LE n E) lxE where
 tr x y z _ _ _ h k:=by
  rcases h with h | ⟨h,h2⟩ <;> rcases k with k | ⟨k,k2⟩
  ·exact .inl (befP_trans h k)
  ·exact .inl (by rw [←k];exact h)
  ·exact .inl (by rw [h];exact k)
  ·exact .inr ⟨h.trans k,lxE_trans h2 k2⟩
 yes x y _ _ _ h:=.inl (cfE_neg.1 h)
 no x y hx hy hl h:=by
  rw [cfE_neg] at h
  rcases befP_len (hA x hx) (hA y hy) with e | e | e
  ·exact .inr ⟨e,hl⟩
  ·exact .inl e
  ·exact absurd e h
structure IsGrp (n:Nat) (E:EvE→List Nat) (P:EvE→Prop) (G:List (List EvE)):Prop where
 ne:∀ g∈G,g≠[]
 mem:∀ x,(∃ g∈G,x∈g)↔P x
 srt:∀ g∈G,g.Pairwise lxE
 eq:∀ g∈G,∀ x∈g,∀ y∈g,E x=E y
 bef:G.Pairwise fun g h=>∀ x∈g,∀ y∈h,befP n (fn (E x)) (fn (E y))
theorem IsGrp.ref {O : List EvE} {G : List (List EvE)} (h : IsGrp n E (· ∈ O) G) (hO : O.Pairwise lxE) {Es : List (List Nat)} (hs : Es.Pairwise fun a b => befP n (fn a) (fn b)) (hm : ∀ e, e ∈ Es ↔ ∃ x ∈ O, E x = e) :
    G=Es.map fun e=>O.filter fun x=>decide (E x=e):=by
 have key:∀ g∈G,∀ x∈g,E (g.headD (0,0))=E x:=fun g hg x hx=>by
  cases g with
  | nil => cases hx
  | cons a t => exact h.eq _ hg a (List.mem_cons_self ..) x hx
 have hhd:∀ g∈G,g.headD (0,0)∈g:=fun g hg=>by
  cases g with
  | nil => exact absurd rfl (h.ne _ hg)
  | cons a t => exact List.mem_cons_self ..
 have hk:G.map (fun g=>E (g.headD (0,0)))=Es:=by
  refine sorted_uniq (R:=fun a b=>befP n (fn a) (fn b)) (fun a b h1 h2=>befP_irrefl n _ (befP_trans h1 h2)) ?_ hs fun e=>?_
  ·rw [List.pairwise_map]
   exact h.bef.imp_of_mem fun {g k} hg hk2 hh=>hh _ (hhd g hg) _ (hhd k hk2)
  ·rw [hm,List.mem_map]
   constructor
   ·rintro ⟨g,hg,rfl⟩
    exact ⟨_,(h.mem _).1 ⟨g,hg,hhd g hg⟩,rfl⟩
   ·rintro ⟨x,hx,rfl⟩
    obtain ⟨g,hg,hxg⟩:=(h.mem x).2 hx
    exact ⟨g,hg,key g hg x hxg⟩
 have hg:∀ g∈G,g=O.filter fun x=>decide (E x=E (g.headD (0,0))):=fun g hg=>by
  refine sorted_uniq (R:=lxE) (fun _ _=>lxE_asymm) (h.srt g hg) (hO.sublist List.filter_sublist) fun x=>?_
  rw [List.mem_filter,decide_eq_true_iff]
  refine ⟨fun hx=>⟨(h.mem x).1 ⟨g,hg,hx⟩,(key g hg x hx).symm⟩,fun ⟨hx,he⟩=>?_⟩
  obtain ⟨k,hk2,hxk⟩:=(h.mem x).2 hx
  obtain ⟨i,hi,rfl⟩:=List.getElem_of_mem hg
  obtain ⟨j,hj,rfl⟩:=List.getElem_of_mem hk2
  have hb:=List.pairwise_iff_getElem.1 h.bef
  rcases Nat.lt_trichotomy i j with e | e | e
  ·have:=hb i j hi hj e _ (hhd _ hg) x hxk
   rw [he] at this;exact absurd this (befP_irrefl n _)
  ·subst e;exact hxk
  ·have:=hb j i hj hi e x hxk _ (hhd _ hg)
   rw [he] at this;exact absurd this (befP_irrefl n _)
 rw [←hk,List.map_map]
 conv=>lhs;rw [←List.map_id G]
 exact List.map_congr_left fun g h1=>hg g h1
def putL (G:List (List EvE)) (x:EvE):List (List EvE):=G.set (G.length - 1) (G.getD (G.length - 1) []++[x])
theorem putL_snoc (G:List (List EvE)) (g:List EvE) (x:EvE):putL (G++[g]) x=G++[g++[x]]:=by
 unfold putL
 simp [List.length_append]
structure GrpI (n:Nat) (E:EvE→List Nat) (d:Nat→EvE) (k:Nat) (G:List (List EvE)):Prop where
 g:IsGrp n E (fun x=>∃ j,j<k∧x=d j) G
 last:0<k→∃ G0 g,G=G0++[g]∧d (k - 1)∈g
theorem GrpI.zero (d:Nat→EvE):GrpI n E d 0 []:=⟨⟨by simp,fun x=>⟨fun ⟨g,h,_⟩=>(by cases h),fun ⟨j,h,_⟩=>absurd h (by omega)⟩,by simp,by simp,List.Pairwise.nil⟩,fun h=>absurd h (by omega)⟩
theorem GrpI.start {d:Nat→EvE} {k N:Nat} {G:List (List EvE)} (h:GrpI n E d k G) (hk:k<N) (hs:Srtd (LE n E) d 0 N) (hne:k=0∨E (d (k - 1))≠E (d k)):GrpI n E d (k+1) (G++[[d k]]):=by
 have hb:∀ j,j<k→befP n (fn (E (d j))) (fn (E (d k))):=fun j hj=>by
  have h1:befP n (fn (E (d (k - 1)))) (fn (E (d k))):=by
   rcases hs (k - 1) k (by omega) (by omega) hk with h1 | h1
   ·exact h1
   ·rcases hne with h2 | h2
    ·omega
    ·exact absurd h1.1 h2
  by_cases e:j=k - 1
  ·subst e;exact h1
  ·rcases hs j (k - 1) (by omega) (by omega) (by omega) with h2 | h2
   ·exact befP_trans h2 h1
   ·rw [h2.1];exact h1
 refine ⟨⟨fun g hg=>?_,fun x=>?_,fun g hg=>?_,fun g hg=>?_,?_⟩,fun _=>⟨G,[d k],rfl,by simp⟩⟩
 ·rcases List.mem_append.1 hg with hg | hg
  ·exact h.g.ne g hg
  ·obtain rfl:=List.mem_singleton.1 hg;simp
 ·constructor
  ·rintro ⟨g,hg,hx⟩
   rcases List.mem_append.1 hg with hg | hg
   ·obtain ⟨j,h1,h2⟩:=(h.g.mem x).1 ⟨g,hg,hx⟩;exact ⟨j,by omega,h2⟩
   ·obtain rfl:=List.mem_singleton.1 hg
    exact ⟨k,by omega,List.mem_singleton.1 hx⟩
  ·rintro ⟨j,h1,rfl⟩
   by_cases e:j=k
   ·subst e;exact ⟨[d j],by simp,by simp⟩
   ·obtain ⟨g,hg,hx⟩:=(h.g.mem (d j)).2 ⟨j,by omega,rfl⟩
    exact ⟨g,List.mem_append_left _ hg,hx⟩
 ·rcases List.mem_append.1 hg with hg | hg
  ·exact h.g.srt g hg
  ·obtain rfl:=List.mem_singleton.1 hg;exact List.pairwise_singleton _ _
 ·rcases List.mem_append.1 hg with hg | hg
  ·exact h.g.eq g hg
  ·obtain rfl:=List.mem_singleton.1 hg
   intro x hx y hy
   rw [List.mem_singleton.1 hx,List.mem_singleton.1 hy]
 ·refine List.pairwise_append.2 ⟨h.g.bef,List.pairwise_singleton _ _,fun g hg m hm x hx y hy=>?_⟩
  obtain rfl:=List.mem_singleton.1 hm
  obtain rfl:=List.mem_singleton.1 hy
  obtain ⟨j,h1,rfl⟩:=(h.g.mem x).1 ⟨g,hg,hx⟩
  exact hb j h1
theorem GrpI.cont {d:Nat→EvE} {k N:Nat} {G:List (List EvE)} (h:GrpI n E d k G) (hk:k<N) (hs:Srtd (LE n E) d 0 N) (h0:0<k) (he:E (d (k - 1))=E (d k)):GrpI n E d (k+1) (putL G (d k)):=by
 obtain ⟨G0,g,rfl,hl⟩:=h.last h0
 rw [putL_snoc]
 have hgm:g∈G0++[g]:=List.mem_append_right _ (List.mem_singleton.2 rfl)
 have hge:∀ x∈g,E x=E (d k):=fun x hx=>(h.g.eq g hgm x hx _ hl).trans he
 have hB:=List.pairwise_append.1 h.g.bef
 refine ⟨⟨fun m hm=>?_,fun x=>?_,fun m hm=>?_,fun m hm=>?_,?_⟩,fun _=>⟨G0,g++[d k],rfl,by simp⟩⟩
 ·rcases List.mem_append.1 hm with hm | hm
  ·exact h.g.ne m (List.mem_append_left _ hm)
  ·obtain rfl:=List.mem_singleton.1 hm;simp
 ·constructor
  ·rintro ⟨m,hm,hx⟩
   rcases List.mem_append.1 hm with hm | hm
   ·obtain ⟨j,h1,h2⟩:=(h.g.mem x).1 ⟨m,List.mem_append_left _ hm,hx⟩;exact ⟨j,by omega,h2⟩
   ·obtain rfl:=List.mem_singleton.1 hm
    rcases List.mem_append.1 hx with hx | hx
    ·obtain ⟨j,h1,h2⟩:=(h.g.mem x).1 ⟨g,hgm,hx⟩;exact ⟨j,by omega,h2⟩
    ·exact ⟨k,by omega,List.mem_singleton.1 hx⟩
  ·rintro ⟨j,h1,rfl⟩
   by_cases e:j=k
   ·subst e;exact ⟨g++[d j],by simp,by simp⟩
   ·obtain ⟨m,hm,hx⟩:=(h.g.mem (d j)).2 ⟨j,by omega,rfl⟩
    rcases List.mem_append.1 hm with hm | hm
    ·exact ⟨m,List.mem_append_left _ hm,hx⟩
    ·obtain rfl:=List.mem_singleton.1 hm
     exact ⟨m++[d k],by simp,List.mem_append_left _ hx⟩
 ·rcases List.mem_append.1 hm with hm | hm
  ·exact h.g.srt m (List.mem_append_left _ hm)
  ·obtain rfl:=List.mem_singleton.1 hm
   refine List.pairwise_append.2 ⟨h.g.srt g hgm,List.pairwise_singleton _ _,fun x hx y hy=>?_⟩
   obtain rfl:=List.mem_singleton.1 hy
   obtain ⟨j,h1,h2⟩:=(h.g.mem x).1 ⟨g,hgm,hx⟩
   have h3:=hge x hx
   subst h2
   rcases hs j k (by omega) h1 hk with h4 | h4
   ·rw [h3] at h4;exact absurd h4 (befP_irrefl n _)
   ·exact h4.2
 ·rcases List.mem_append.1 hm with hm | hm
  ·exact h.g.eq m (List.mem_append_left _ hm)
  ·obtain rfl:=List.mem_singleton.1 hm
   have hall:∀ x∈g++[d k],E x=E (d k):=fun x hx=>by
    rcases List.mem_append.1 hx with hx | hx
    ·exact hge x hx
    ·rw [List.mem_singleton.1 hx]
   intro x hx y hy
   rw [hall x hx,hall y hy]
 ·refine List.pairwise_append.2 ⟨hB.1,List.pairwise_singleton _ _,fun m hm m2 hm2 x hx y hy=>?_⟩
  obtain rfl:=List.mem_singleton.1 hm2
  have h1:=hB.2.2 m hm g (List.mem_singleton.2 rfl) x hx (d (k - 1)) hl
  have h2:E y=E (d (k - 1)):=by
   rcases List.mem_append.1 hy with hy | hy
   ·exact (hge y hy).trans he.symm
   ·rw [List.mem_singleton.1 hy];exact he.symm
  rw [h2];exact h1
end
end Go.Proofs.YtlfdfkbmollaaaaGreatDoor

namespace Go.Proofs.YtlfdfkbmollaaaaGreatDoor
open Go.RowKit
theorem Que.putC' {w:World} {base size n g off cap:Nat} {xs:List Value} (h:Que w base size (.slice (some ⟨g,off,none⟩) n cap) n xs) {j:Nat} (hj:j<n*size) (v:Value):Que (w.setCell ⟨g,off+j,none⟩ v) base size (.slice (some ⟨g,off,none⟩) n cap) n (xs.set j v):=by
 refine ⟨by rw [List.length_set];exact h.len,?_⟩
 rcases h.val with ⟨ao,hv,hn,ha⟩ | ⟨g',off',cap',hv,h1,h2,h3,h4,h5,h6⟩
 ·subst hn;simp at hj
 ·cases hv
  have hxl:=h.len
  have hcell:w.cell? ⟨g,off+j,none⟩=some (xs[j]'(by omega)):=by rw [h5 j hj];exact List.getElem?_eq_getElem _
  refine .inr ⟨g,off,cap,rfl,h1,by rw [World.size_setCell];exact h2,h3,h4,fun i hi=>?_,fun i hi=>?_⟩
  ·rw [cell_set w g (off+j) (off+i) v hcell]
   by_cases e:i=j
   ·subst e;rw [if_pos rfl,List.getElem?_set_self (by omega)]
   ·rw [if_neg (by omega),List.getElem?_set_ne (fun h=>e h.symm)];exact h5 i hi
  ·rw [cell_set w g (off+j) (off+i) v hcell,frozen_set]
   refine ⟨?_,(h6 i hi).2⟩
   by_cases e:off+i=off+j
   ·rw [if_pos e];rfl
   ·rw [if_neg e];exact (h6 i hi).1
def up {α:Type} (f:Nat→α) (j:Nat) (v:α):Nat→α:=fun k=>if k=j then v else f k
theorem up_same {α:Type} (f:Nat→α) (j:Nat) (v:α):up f j v j=v:=if_pos rfl
theorem up_other {α:Type} (f:Nat→α) {j k:Nat} (v:α) (h:k≠j):up f j v k=f k:=if_neg h
theorem map_up {α:Type} (f:Nat→α) (v:α) {j K:Nat}:((List.range K).map f).set j v=(List.range K).map (up f j v):=by
 refine List.ext_getElem? fun i=>?_
 by_cases hi:i<K
 ·by_cases e:i=j
  ·subst e
   rw [List.getElem?_set_self (by simpa using hi)]
   simp [hi,up_same]
  ·rw [List.getElem?_set_ne (fun h=>e h.symm)]
   simp [hi,up_other f v e]
 ·rw [List.getElem?_eq_none (by simp;omega),List.getElem?_eq_none (by simp;omega)]
theorem map_up_snoc {α:Type} (f:Nat→α) (v:α) (K:Nat):(List.range (K+1)).map (up f K v)=(List.range K).map f++[v]:=by
 rw [List.range_succ,List.map_append]
 congr 1
 ·exact List.map_congr_left fun p hp=>up_other f v (by have:=List.mem_range.1 hp;omega)
 ·simp [up_same]
theorem getD_snocE (G:List (List EvE)) (k:Nat):(G++[[]]).getD k []=G.getD k []:=by
 simp only [List.getD_eq_getElem?_getD]
 by_cases h:k<G.length
 ·rw [List.getElem?_append_left h]
 ·rw [List.getElem?_eq_none (l:=G) (by omega)]
  by_cases e:k=G.length
  ·subst e;simp
  ·rw [List.getElem?_eq_none (by simp;omega)]
theorem putL_len (G:List (List EvE)) (x:EvE):(putL G x).length=G.length:=by simp [putL]
theorem putL_get {G:List (List EvE)} {x:EvE} (h:0<G.length) (k:Nat):(putL G x).getD k []=up (fun k=>G.getD k []) (G.length - 1) (G.getD (G.length - 1) []++[x]) k:=by
 unfold putL up
 rw [List.getD_eq_getElem?_getD]
 by_cases e:k=G.length - 1
 ·subst e;rw [if_pos rfl,List.getElem?_set_self (by omega)];rfl
 ·rw [if_neg e,List.getElem?_set_ne (fun h=>e h.symm)];exact (List.getD_eq_getElem?_getD).symm
structure GpI (B:Nat) (G:List (List EvE)) (vg ve:Value) (NG:Nat→Value) (R:List Row) (w:World):Prop where
 qg:Que w B 1 vg G.length ((List.range G.length).map NG)
 qe:Que w B 1 ve R.length (R.map Row.val)
 qv:∀ k,k<G.length→Que w B 2 (NG k) (G.getD k []).length (evCells (G.getD k []))∧∀ b,(NG k).ownBlock=some b→b<w.heap.size
 ag:∀ b,vg.ownBlock=some b→b<w.heap.size∧ve.ownBlock≠some b∧∀ k,k<G.length→(NG k).ownBlock≠some b
 ae:∀ b,ve.ownBlock=some b→b<w.heap.size∧∀ k,k<G.length→(NG k).ownBlock≠some b
 aa:∀ j k,j<G.length→k<G.length→j≠k→∀ b,(NG j).ownBlock=some b→(NG k).ownBlock≠some b
theorem GpI.start (w:World) (B:Nat):GpI B [] (.slice none 0 0) (.slice none 0 0) (fun _=>.bool false) [] w:=
 ⟨Que.nil _ _ _,Que.nil _ _ _,fun k h=>absurd h (Nat.not_lt_zero _),fun b e=>(by cases e),fun b e=>(by cases e),fun j k h=>absurd h (Nat.not_lt_zero _)⟩
section
variable {B:Nat} {G:List (List EvE)} {vg ve:Value} {NG:Nat→Value} {R:List Row} {w w':World}
theorem GpI.ext (h:GpI B G vg ve NG R w) (x:Ext w w'):GpI B G vg ve NG R w':=
 ⟨h.qg.ext x,h.qe.ext x,fun k hk=>⟨(h.qv k hk).1.ext x,fun b e=>Nat.lt_of_lt_of_le ((h.qv k hk).2 b e) x.le⟩,fun b e=>⟨Nat.lt_of_lt_of_le (h.ag b e).1 x.le,(h.ag b e).2⟩,fun b e=>⟨Nat.lt_of_lt_of_le (h.ae b e).1 x.le,(h.ae b e).2⟩,h.aa⟩
theorem GpI.pushG (h : GpI B G vg ve NG R w) {vg' : Value} (hg : w.grownBy w' vg.ownBlock) (hq : Que w' B 1 vg' (G.length + 1) ((List.range G.length).map NG ++ [.slice none 0 0])) (ho : vg'.ownBlock = vg.ownBlock ∨ vg'.ownBlock = some w.heap.size) :
    GpI B (G++[[]]) vg' ve (up NG G.length (.slice none 0 0)) R w':=by
 have hne:∀ {v:Value},(∀ b,vg.ownBlock=some b→v.ownBlock≠some b)→(∀ b,v.ownBlock=some b→b<w.heap.size)→∀ g,v.ownBlock=some g→w'.heap[g]?=w.heap[g]?:=fun h1 h2 g e=>hg.block g (h2 g e) fun e2=>h1 g e2.symm e
 have hlen:(G++[([]:List EvE)]).length=G.length+1:=by simp
 have hl:=Que.own_lt hq (by omega)
 have hap:∀ k,k<G.length+1→∀ b,(up NG G.length (.slice none 0 0) k).ownBlock=some b→k<G.length∧(NG k).ownBlock=some b:=fun k hk b e=>by
  unfold up at e
  split at e
  ·cases e
  ·exact ⟨by omega,e⟩
 refine ⟨by rw [hlen,map_up_snoc];exact hq,h.qe.same' hg.size (hne (fun b e=>(h.ag b e).2.1) fun b e=>(h.ae b e).1),fun k hk=>⟨?_,fun b e=>?_⟩,fun b e=>⟨hl b e,fun e2=>?_,fun k hk e2=>?_⟩,fun b e=>⟨Nat.lt_of_lt_of_le (h.ae b e).1 hg.size,fun k hk e2=>?_⟩,fun j k hj hk hjk b e e2=>?_⟩
 ·rw [hlen] at hk
  rw [getD_snocE]
  unfold up
  split
  ·next e=>
   have:G.getD k []=[]:=by rw [List.getD_eq_getElem?_getD,List.getElem?_eq_none (by omega)];rfl
   rw [this];exact Que.nil _ _ _
  ·next e=>exact (h.qv k (by omega)).1.same' hg.size (hne (fun b e=>(h.ag b e).2.2 k (by omega)) (h.qv k (by omega)).2)
 ·rw [hlen] at hk
  obtain ⟨h1,h2⟩:=hap k hk b e
  exact Nat.lt_of_lt_of_le ((h.qv k h1).2 b h2) hg.size
 ·rcases ho with h1 | h1
  ·rw [h1] at e;exact (h.ag b e).2.1 e2
  ·rw [h1] at e
   obtain rfl:w.heap.size=b:=by simpa using e
   exact absurd (h.ae _ e2).1 (Nat.lt_irrefl _)
 ·rw [hlen] at hk
  obtain ⟨h2,h3⟩:=hap k hk b e2
  rcases ho with h1 | h1
  ·rw [h1] at e;exact (h.ag b e).2.2 k h2 h3
  ·rw [h1] at e
   obtain rfl:w.heap.size=b:=by simpa using e
   exact absurd ((h.qv k h2).2 _ h3) (Nat.lt_irrefl _)
 ·rw [hlen] at hk
  obtain ⟨h2,h3⟩:=hap k hk b e2
  exact (h.ae b e).2 k h2 h3
 ·rw [hlen] at hj hk
  obtain ⟨h1,h2⟩:=hap j hj b e
  obtain ⟨h3,h4⟩:=hap k hk b e2
  exact h.aa j k h1 h3 hjk b h2 h4
theorem GpI.pushE (h : GpI B G vg ve NG R w) {ve' : Value} {r : Row} (hg : w.grownBy w' ve.ownBlock) (hq : Que w' B 1 ve' (R.length + 1) (R.map Row.val ++ [r.val])) (ho : ve'.ownBlock = ve.ownBlock ∨ ve'.ownBlock = some w.heap.size) :
    GpI B G vg ve' NG (R++[r]) w':=by
 have hne:∀ {v:Value},(∀ b,ve.ownBlock=some b→v.ownBlock≠some b)→(∀ b,v.ownBlock=some b→b<w.heap.size)→∀ g,v.ownBlock=some g→w'.heap[g]?=w.heap[g]?:=fun h1 h2 g e=>hg.block g (h2 g e) fun e2=>h1 g e2.symm e
 have hl:=Que.own_lt hq (by omega)
 refine ⟨h.qg.same' hg.size (hne (fun b e e2=>(h.ag b e2).2.1 e) fun b e=>(h.ag b e).1),by simpa using hq,fun k hk=>⟨(h.qv k hk).1.same' hg.size (hne (fun b e=>(h.ae b e).2 k hk) (h.qv k hk).2),fun b e=>Nat.lt_of_lt_of_le ((h.qv k hk).2 b e) hg.size⟩,
  fun b e=>⟨Nat.lt_of_lt_of_le (h.ag b e).1 hg.size,fun e2=>?_,(h.ag b e).2.2⟩,fun b e=>⟨hl b e,fun k hk e2=>?_⟩,h.aa⟩
 ·rcases ho with h1 | h1
  ·rw [h1] at e2;exact (h.ag b e).2.1 e2
  ·rw [h1] at e2
   obtain rfl:w.heap.size=b:=by simpa using e2
   exact absurd (h.ag _ e).1 (Nat.lt_irrefl _)
 ·rcases ho with h1 | h1
  ·rw [h1] at e;exact (h.ae b e).2 k hk e2
  ·rw [h1] at e
   obtain rfl:w.heap.size=b:=by simpa using e
   exact absurd ((h.qv k hk).2 _ e2) (Nat.lt_irrefl _)
theorem GpI.put (h : GpI B G vg ve NG R w) (h0 : 0 < G.length) {v' : Value} {x : EvE} (hg : w.grownBy w' (NG (G.length - 1)).ownBlock) (hq : Que w' B 2 v' ((G.getD (G.length - 1) []).length + 1) (evCells (G.getD (G.length - 1) [] ++ [x]))) (ho : v'.ownBlock = (NG (G.length - 1)).ownBlock ∨ v'.ownBlock = some w.heap.size)
    {g o c:Nat} (hv:vg=.slice (some ⟨g,o,none⟩) G.length c):GpI B (putL G x) vg ve (up NG (G.length - 1) v') R (w'.setCell ⟨g,o+(G.length - 1),none⟩ v'):=by
 obtain ⟨j,hj⟩:∃ j,j=G.length - 1:=⟨_,rfl⟩
 rw [←hj] at hg hq ho ⊢
 have hjl:j<G.length:=by omega
 have hl:=Que.own_lt hq (by omega)
 have hgo:vg.ownBlock=some g:=by rw [hv];rfl
 have hA:=h.ag g hgo
 have hvo:∀ b,v'.ownBlock=some b→b≠g:=fun b e e2=>by
  subst e2
  rcases ho with h1 | h1
  ·rw [h1] at e;exact hA.2.2 j hjl e
  ·rw [h1] at e
   obtain rfl:w.heap.size=b:=by simpa using e
   exact absurd hA.1 (Nat.lt_irrefl _)
 have hne:∀ {v:Value},(∀ b,(NG j).ownBlock=some b→v.ownBlock≠some b)→(∀ b,v.ownBlock=some b→b<w.heap.size)→∀ b,v.ownBlock=some b→w'.heap[b]?=w.heap[b]?:=fun h1 h2 b e=>hg.block b (h2 b e) fun e2=>h1 b e2.symm e
 have hst:∀ {v:Value},(∀ b,v.ownBlock=some b→b≠g)→∀ b,v.ownBlock=some b→(w'.setCell ⟨g,o+j,none⟩ v').heap[b]?=w'.heap[b]?:=fun h1 b e=>Below.heap_setCell _ _ _ _ (h1 b e)
 have hsz:w'.heap.size≤(w'.setCell ⟨g,o+j,none⟩ v').heap.size:=by rw [World.size_setCell];exact Nat.le_refl _
 have hsw:w.heap.size≤(w'.setCell ⟨g,o+j,none⟩ v').heap.size:=Nat.le_trans hg.size hsz
 have hap:∀ k,k<G.length→∀ b,(up NG j v' k).ownBlock=some b→(k=j∧v'.ownBlock=some b)∨(k≠j∧(NG k).ownBlock=some b):=fun k hk b e=>by
  unfold up at e
  split at e
  ·next h1=>exact .inl ⟨h1,e⟩
  ·next h1=>exact .inr ⟨h1,e⟩
 have hvn:∀ b k,k<G.length→k≠j→v'.ownBlock=some b→(NG k).ownBlock≠some b:=fun b k hk hkj e e2=>by
  rcases ho with h1 | h1
  ·rw [h1] at e;exact h.aa j k hjl hk (fun h=>hkj h.symm) b e e2
  ·rw [h1] at e
   obtain rfl:w.heap.size=b:=by simpa using e
   exact absurd ((h.qv k hk).2 _ e2) (Nat.lt_irrefl _)
 have hve:∀ b,v'.ownBlock=some b→ve.ownBlock≠some b:=fun b e e2=>by
  rcases ho with h1 | h1
  ·rw [h1] at e;exact (h.ae b e2).2 j hjl e
  ·rw [h1] at e
   obtain rfl:w.heap.size=b:=by simpa using e
   exact absurd (h.ae _ e2).1 (Nat.lt_irrefl _)
 refine ⟨?_,?_,fun k hk=>⟨?_,fun b e=>?_⟩,fun b e=>?_,fun b e=>?_,fun i k hi hk hik b e e2=>?_⟩
 ·rw [putL_len,←map_up]
  have h1:Que w' B 1 vg G.length ((List.range G.length).map NG):=h.qg.same' hg.size (hne (fun b e e2=>(h.ag b e2).2.2 j hjl e) fun b e=>(h.ag b e).1)
  rw [hv] at h1 ⊢
  exact h1.putC' (by omega) v'
 ·exact (h.qe.same' hg.size (hne (fun b e e2=>(h.ae b e2).2 j hjl e) fun b e=>(h.ae b e).1)).same' hsz (hst fun b e e2=>hA.2.1 (by rw [←e2];exact e))
 ·rw [putL_len] at hk
  rw [putL_get h0,←hj]
  unfold up
  split
  ·next e=>rw [List.length_append];exact hq.same' hsz (hst hvo)
  ·next e=>exact ((h.qv k hk).1.same' hg.size (hne (fun b e2=>h.aa j k hjl hk (fun h=>e h.symm) b e2) (h.qv k hk).2)).same' hsz (hst fun b e3 e4=>hA.2.2 k hk (by rw [←e4];exact e3))
 ·rw [putL_len] at hk
  rcases hap k hk b e with ⟨_,e⟩ | ⟨_,e⟩
  ·exact Nat.lt_of_lt_of_le (hl b e) hsz
  ·exact Nat.lt_of_lt_of_le ((h.qv k hk).2 b e) hsw
 ·refine ⟨Nat.lt_of_lt_of_le (h.ag b e).1 hsw,(h.ag b e).2.1,fun k hk e2=>?_⟩
  rw [putL_len] at hk
  have hb:g=b:=by rw [hgo] at e;simpa using e
  rcases hap k hk b e2 with ⟨_,e3⟩ | ⟨_,e3⟩
  ·exact hvo b e3 hb.symm
  ·exact (h.ag b e).2.2 k hk e3
 ·refine ⟨Nat.lt_of_lt_of_le (h.ae b e).1 hsw,fun k hk e2=>?_⟩
  rw [putL_len] at hk
  rcases hap k hk b e2 with ⟨_,e3⟩ | ⟨_,e3⟩
  ·exact hve b e3 e
  ·exact (h.ae b e).2 k hk e3
 ·rw [putL_len] at hi hk
  rcases hap i hi b e with ⟨i1,e3⟩ | ⟨i1,e3⟩ <;> rcases hap k hk b e2 with ⟨k1,e4⟩ | ⟨k1,e4⟩
  ·exact hik (i1.trans k1.symm)
  ·exact hvn b k hk k1 e3 e4
  ·exact hvn b i hi i1 e4 e3
  ·exact h.aa i k hi hk hik b e3 e4
end
def Cg (S:Nat→Prop) (w w':World):Prop:=Below 0 w w'∧∀ g,g<w.heap.size→¬S g→w'.heap[g]?=w.heap[g]?
theorem Cg.le {S:Nat→Prop} {w w':World} (h:Cg S w w'):w.heap.size≤w'.heap.size:=h.1.size
theorem Cg.refl (S:Nat→Prop) (w:World):Cg S w w:=⟨Below.refl _ _,fun _ _ _=>rfl⟩
theorem Cg.trans {S:Nat→Prop} {a b c:World} (h:Cg S a b) (k:Cg S b c):Cg S a c:=⟨h.1.trans k.1,fun g hg hs=>(k.2 g (Nat.lt_of_lt_of_le hg h.le) hs).trans (h.2 g hg hs)⟩
theorem Ext.cg {w w':World} (h:Ext w w') (S:Nat→Prop):Cg S w w':=⟨Below.mono h (Nat.zero_le _),fun g hg _=>h.block g hg⟩
theorem Cg.drew {S:Nat→Prop} {w w':World} (h:Cg S w w'):Cg S w w'.drew:=h.trans ((Ext.refl w').drew.cg S)
theorem Cg.alloc {S:Nat→Prop} {w w':World} (h:Cg S w w') (o:Obj):Cg S w (w'.alloc o):=h.trans ((Ext.alloc w' o).cg S)
theorem Cg.set {S:Nat→Prop} {w W:World} (h:Cg S w W) (p:Addr) (v:Value) (hp:S p.block):Cg S w (W.setCell p v):=
 ⟨h.1.setCell (Nat.zero_le _) v,fun g hg hn=>(Below.heap_setCell _ _ _ _ (fun e=>by subst e;exact hn hp)).trans (h.2 g hg hn)⟩
theorem Cg.grown {S:Nat→Prop} {w W W':World} (h:Cg S w W) {v:Option Nat} (hg:W.grownBy W' v) (hv:∀ g,v=some g→S g∨w.heap.size≤g):Cg S w W':=
 ⟨h.1.grown hg (Nat.zero_le _) (fun _ _=>Nat.zero_le _),fun g hg' hn=>(hg.block g (Nat.lt_of_lt_of_le hg' h.le) fun e=>by
  rcases hv g e.symm with k | k
  ·exact hn k
  ·omega).trans (h.2 g hg' hn)⟩
theorem Hold.blkG {W W':World} {b:Nat} {c:Array Value} (h:Hold W b c) (e:W'.heap[b]?=W.heap[b]?):Hold W' b c:=by
 obtain ⟨t,h⟩:=h
 exact ⟨t,e.trans h⟩
theorem Hold.cg {S:Nat→Prop} {w w':World} {b:Nat} {c:Array Value} (h:Hold w b c) (k:Cg S w w') (hb:¬S b):Hold w' b c:=h.blkG (k.2 b h.lt hb)
theorem Hold.grownG {W W':World} {b:Nat} {c:Array Value} {o:Option Nat} (h:Hold W b c) (hg:W.grownBy W' o) (ho:o≠some b):Hold W' b c:=h.blkG (hg.block b h.lt fun e=>ho e.symm)
theorem Hold.boxG {S:Nat→Prop} {w:World} {b:Nat} {c:Array Value} (h:Hold w b c) (hb:¬S b):(∀ w',Cg S w w'→b<w'.heap.size)∧∀ w',Cg S w w'→∀ i,w'.cell? ⟨b,i,none⟩=c[i]?:=
 ⟨fun _ k=>(h.cg k hb).lt,fun _ k i=>(h.cg k hb).cell0 i⟩
theorem Hold.srcG {P:Program} {W:World} {b:Nat} {l:List Value} {size:Nat} (h:Hold W b l.toArray) {t e:TypeId} (hk:P.underlying t=some (.slice e)) (hl:l.length=size) (h1:∀ u∈l,u.oneCell'=true):Src P size t (.slice (some ⟨b,0,none⟩) 1 1) 1 l W:=by
 refine Src.ofSlice W hk ⟨b,0,none⟩ 1 1 l (by omega) (fun j u hu=>?_) h1
 rw [Addr.add_lit,Nat.zero_add,h.cell0 j]
 simpa using hu
theorem step_appendG {P : Program} (w : World) {ops : Array Oper} {o : Oper} {a : Act} {K : Act → World → Prop} {Q : Exit → Act → World → Prop} {E : Prop} (hgd : o.guard = none) (s x : Operand) (t tx : TypeId)
    (ho:o.op=.call { callee:=.builtin .append,args:=#[s,x],argTypes:=#[t,tx] })
    {base:Nat} {e:TypeId} {size:Nat} (i:TypeInfo) (z:Value) (bytes:Nat) (ht:P.underlying t=some (.slice e)) (hi:P.info? e=some i) (hz:i.zero=some z) (hsize:i.size=size) (hby:i.bytes=bytes) (hzs:z.cells.size=size)
    {v:Value} {n:Nat} {xs:List Value} (hv:a.eval s=v) (h:Que w base size v n xs) (hb:base≤w.heap.size)
    (xv:Value) (m:Nat) (news:List Value) (hx:a.eval x=xv) (hs:Src P size tx xv m news w) (h63:n+m≤maxLen) (hbytes:(n+m)*bytes≤140737488355328)
    (hK:∀ v' w',Que w' base size v' (n+m) (xs++news)→w.grownBy w' v.ownBlock→(v'.ownBlock=v.ownBlock∨v'.ownBlock=some w.heap.size)→K (a.put o.dst v') w') :
    if Region.wanted o (yielded ops a.tmps)=true then Oper.wp P o a w K Q else E:=by
 have hw:Region.wanted o (yielded ops a.tmps)=true:=by simp [Region.wanted,hgd]
 rw [if_pos hw]
 obtain ⟨v',w',hrun,r1,r2,r3⟩:=run_append_que (P:=P) t tx o.type e i z size bytes ht hi hz hsize hby hzs h hb xv m news hs h63 hbytes
 unfold Oper.wp
 simp [execOp,ho,resolve,invoke,builtin,hv,hx,hrun,Result.andThen]
 exact hK v' w' r1 r2 r3
def GrpQ (w:World) (base:Nat) (v:Value) (G:List (List EvE)):Prop:=∃ NG:Nat→Value,Que w base 1 v G.length ((List.range G.length).map NG)∧∀ k,k<G.length→Que w base 2 (NG k) (G.getD k []).length (evCells (G.getD k []))
theorem GpI.grp {B:Nat} {G:List (List EvE)} {vg ve:Value} {NG:Nat→Value} {R:List Row} {w:World} (h:GpI B G vg ve NG R w):GrpQ w B vg G:=⟨NG,h.qg,fun k hk=>(h.qv k hk).1⟩
end Go.Proofs.YtlfdfkbmollaaaaGreatDoor

namespace Go.Proofs.YtlfdfkbmollaaaaGreatDoor
open Go.RowKit Go.Shelf
attribute [local go_sem] Oper.semAt_some
theorem sumN_natV {u:Nat→Nat}:∀ {n:Nat},sumN (natV u) n=(tot u n:Nat)
 | 0 => rfl
 | n+1 => by show sumN (natV u) n+natV u n=((tot u n+u n:Nat):Int);rw [sumN_natV];unfold natV;omega
set_option maxHeartbeats 1000000 in
theorem ssize_any (w : World) (n cap : Nat) (a : Option Addr) (g o : Nat) (v : Nat → Int) (hA : NumAt w n a g o v) (hn : n ≤ 100) (hv : ∀ k, k < n → 0 ≤ v k ∧ v k ≤ 1000000) :
    Calls Tryz.prog 111 #[.slice a n cap] w fun e w'=>e=.returned (.int .i64 (sumN v n))∧Ext w w':=by
 have HA:=Lib.hid hA
 have HV:=Lib.hid hv
 clear hA hv
 go_enter Tryz.func111,Tryz.ntmps111
 go_wp2_with fail
 go_loopg [3,8] n (fun gg v3 v8 wr=>∃ k:Nat,k≤n∧gg=n - k∧v8=.int .i64 k∧v3=.int .i64 (sumN v k)∧Ext w wr)
 case atStart=>exact ⟨0,by omega,rfl,rfl,rfl,Ext.refl _⟩
 case round=>
  obtain ⟨k,hk,rfl,rfl,rfl,hxr⟩:=hrel
  by_cases hlt:k<n
  ·have hlt':(k:Int)<(n:Int):=by omega
   obtain rfl:=HA.out.pa (by omega)
   obtain ⟨x,hx⟩:∃ x,x=v k:=⟨_,rfl⟩
   obtain ⟨s,hs⟩:∃ s,s=sumN v k:=⟨_,rfl⟩
   have hsb:=sumN_le (v:=v) (c:=1000000) (n:=k) fun j hj=>HV.out j (by omega)
   have hxb:=HV.out k hlt
   rw [←hx] at hxb
   rw [←hs] at hsb ⊢
   have hc:wr.cell? ⟨g,o+k,none⟩=some (.int .i64 x):=by rw [hx];exact hxr.cell (HA.out.c k hlt)
   have hg:g<wr.heap.size:=Nat.lt_of_lt_of_le (HA.out.pb (by omega)) hxr.le
   have hk2:k*1000000≤100*1000000:=Nat.mul_le_mul_right _ (by omega)
   have hw:IntKind.i64.wrap (s+x)=s+x:=IntWalk.i64_in _ (by omega)
   have HX:=Lib.hid hx
   have HS:=Lib.hid hs
   clear hx hs
   go_wp2_with fail
   go_roundg (n - (k+1))
   case rel=>exact ⟨k+1,by omega,rfl,by go_num,by show _=Value.int .i64 (sumN v k+v k);rw [←HX.out,←HS.out],hxr⟩
   case measure=>omega
  ·have hlt':decide ((k:Int)<(n:Int))=false:=decide_eq_false (by omega)
   obtain rfl:k=n:=by omega
   go_wp2_with fail
   go_ret
   exact ⟨rfl,hxr⟩
def SlcD.E (S:SlcD) (n:Nat) (x:EvE):List Nat:=rowOf n fun q=>((S.j.m x.1.toNat).val (x.2.toNat - 1) q).toNat
def SlcD.Has (S:SlcD) (n:Nat) (x:EvE):Prop:=∃ p i:Nat,x=((p:Int),(i:Int)+1)∧p<S.j.s.n∧i<(S.j.m p).n∧(S.j.m p).rn i=n∧∀ q,q<n→0≤(S.j.m p).val i q∧(S.j.m p).val i q≤1000
theorem SlcD.E_len (S:SlcD) (n:Nat) (x:EvE):(S.E n x).length=n:=rowOf_len _ _
theorem SlcD.E_at (S:SlcD) (n p i:Nat):S.E n ((p:Int),(i:Int)+1)=rowOf n fun q=>((S.j.m p).val i q).toNat:=by
 unfold SlcD.E
 simp only [Int.toNat_natCast]
 rw [show ((i:Int)+1).toNat - 1=i by omega]
theorem NumAt.row {w:World} {n:Nat} {a:Option Addr} {g o:Nat} {v:Nat→Int} (h:NumAt w n a g o v) (hv:∀ q,q<n→0≤v q):NumAt w n a g o (natV (fn (rowOf n fun q=>(v q).toNat))):=
 ⟨h.hn,h.pa,h.pb,fun k hk=>by rw [h.c k hk];unfold natV;rw [fn_rowOf hk];congr 2;have:=hv k hk;omega⟩
def SlcD.row (S:SlcD) (n:Nat) (x:EvE):Row:=⟨S.E n x,(S.j.m x.1.toNat).ra (x.2.toNat - 1),(S.j.m x.1.toNat).rb (x.2.toNat - 1),(S.j.m x.1.toNat).ro (x.2.toNat - 1),(S.j.m x.1.toNat).rc (x.2.toNat - 1)⟩
theorem SlcD.row_at {S:SlcD} {n:Nat} {x:EvE} {w:World} (hS:S.At w) (h:S.Has n x):(S.row n x).At w∧(S.row n x).val=.slice ((S.j.m x.1.toNat).ra (x.2.toNat - 1)) n ((S.j.m x.1.toNat).rc (x.2.toNat - 1)):=by
 obtain ⟨p,i,rfl,hp,hi,hr,hv⟩:=h
 have h1:=(hS.j.c p hp).2.num hi
 rw [hr] at h1
 refine ⟨?_,by unfold Row.val SlcD.row;simp only [S.E_len]⟩
 show NumAt w (S.E n ((p:Int),(i:Int)+1)).length ((S.j.m (p:Int).toNat).ra (((i:Int)+1).toNat - 1)) ((S.j.m (p:Int).toNat).rb (((i:Int)+1).toNat - 1)) ((S.j.m (p:Int).toNat).ro (((i:Int)+1).toNat - 1)) (natV (fn (S.E n ((p:Int),(i:Int)+1))))
 rw [show ((i:Int)+1).toNat - 1=i by omega,Int.toNat_natCast,S.E_len,S.E_at]
 exact h1.row fun q hq=>(hv q hq).1
set_option maxHeartbeats 1000000 in
theorem elem_any (w : World) (S : SlcD) (hS : S.At w) (n : Nat) (x : EvE) (h : S.Has n x) :
    Calls Tryz.prog 53 #[S.val,evW x] w fun e w'=>e=.returned (S.row n x).val∧Ext w w':=by
 have h1:=(SlcD.row_at hS h).2
 obtain ⟨p,i,rfl,hp,hi,hr,hv⟩:=h
 rw [h1]
 simp only [Int.toNat_natCast]
 rw [show ((i:Int)+1).toNat - 1=i by omega,←hr]
 exact tel_any w S hS p i _ hp hi rfl
set_option maxHeartbeats 2000000 in
theorem grp1_any (w : World) (S : SlcD) (hS : S.At w) (bs : Nat) (cs : SBox w bs S) (n : Nat) (hn : n ≤ 100) (x y : EvE) (hx : S.Has n x) (hy : S.Has n y) :
    Calls Tryz.prog 108 #[evW x,evW y,.pointer (some ⟨bs,0,none⟩)] w fun e w'=>e=.returned (.int .i64 (cfE n (S.E n) x y))∧Ext w w':=by
 have HEX:=Lib.hid (fun W (z:Ext w W)=>elem_any W S (hS.ext z) n x hx)
 have HEY:=Lib.hid (fun W (z:Ext w W)=>elem_any W S (hS.ext z) n y hy)
 have rX:=(SlcD.row_at hS hx).1
 have rY:=(SlcD.row_at hS hy).1
 have vX:(S.row n x).val=.slice (S.row n x).a n (S.row n x).c:=by unfold Row.val SlcD.row;simp only [S.E_len]
 have vY:(S.row n y).val=.slice (S.row n y).a n (S.row n y).c:=by unfold Row.val SlcD.row;simp only [S.E_len]
 have hEX:(S.row n x).l=S.E n x:=rfl
 have hEY:(S.row n y).l=S.E n y:=rfl
 have HBX:=Lib.hid (show ∀ k,k<n→0≤natV (fn (S.E n x)) k∧natV (fn (S.E n x)) k≤1000000 from fun k hk=>by
  obtain ⟨p,i,rfl,_,_,_,hv⟩:=hx
  have:=hv k hk
  rw [S.E_at];unfold natV;rw [fn_rowOf hk];omega)
 have HBY:=Lib.hid (show ∀ k,k<n→0≤natV (fn (S.E n y)) k∧natV (fn (S.E n y)) k≤1000000 from fun k hk=>by
  obtain ⟨p,i,rfl,_,_,_,hv⟩:=hy
  have:=hv k hk
  rw [S.E_at];unfold natV;rw [fn_rowOf hk];omega)
 unfold Row.At at rX rY
 rw [hEX,S.E_len] at rX
 rw [hEY,S.E_len] at rY
 have HRX:=Lib.hid rX
 have HRY:=Lib.hid rY
 obtain ⟨r,hr⟩:∃ r,r=cfE n (S.E n) x y:=⟨_,rfl⟩
 rw [←hr]
 have HR:=Lib.hid hr
 rw [vX] at HEX
 rw [vY] at HEY
 obtain ⟨ax,hax⟩:∃ z,z=(S.row n x).a:=⟨_,rfl⟩
 obtain ⟨cx,hcx⟩:∃ z,z=(S.row n x).c:=⟨_,rfl⟩
 obtain ⟨ay,hay⟩:∃ z,z=(S.row n y).a:=⟨_,rfl⟩
 obtain ⟨cy,hcy⟩:∃ z,z=(S.row n y).c:=⟨_,rfl⟩
 rw [←hax,←hcx] at HEX
 rw [←hay,←hcy] at HEY
 rw [←hax] at HRX
 rw [←hay] at HRY
 clear hS hx hy rX rY vX vY hEX hEY hr hax hcx hay hcy
 go_enter Tryz.func108,Tryz.ntmps108
 go_upto_region 1 with fail
 refine boxed2 (w:=w) (G:=fun x=>Code.wp _ _ _ _ x) ?_
 intro w1 hx1 hs1 ⟨l0,c0,_,_⟩ ⟨l1,c1,_,_⟩
 have hx11:Ext w1 w1:=Ext.refl _
 have hg0:∀ d os,Ext w (Sort.grow (redrawn w1 d) os):=fun d os=>hx1.trans (below_regrown w1 d os)
 have hg1:∀ d os,Ext w1 (Sort.grow (redrawn w1 d) os):=fun d os=>below_regrown w1 d os
 clear hs1
 refine wp_region_quiet_below (by kernel_rfl) (by kernel_rfl) ?_
 go_big_quiet_step (fail)
 go_big_quiet_step (fail)
 go_big_quiet_step (exact Calls.regrown_of (HEX.out _ (hg0 _ _)))
 go_big_quiet_step (fail)
 go_big_quiet_step (fail)
 go_big_quiet_step (exact Calls.regrown_of (HEY.out _ (hg0 _ _)))
 repeat (go_big_quiet_step (fail))
 refine wpQuiet_nil ?_
 intro _ hw'
 obtain ⟨⟨dq,osq⟩,hw''⟩:=hw'
 subst hw''
 have hx9:=hg0 dq osq
 clear hg0 hg1 c0 c1 l0 l1
 generalize Sort.grow (redrawn w1 dq) osq=w2 at hx9 ⊢
 have hSX:=ssize_any w2 n cx _ _ _ _ (HRX.out.ext hx9) hn HBX.out
 have HSY:=Lib.hid (fun W (z:Ext w W)=>ssize_any W n cy _ _ _ _ (HRY.out.ext z) hn HBY.out)
 go_wp2_with fail
 go_at_call 111
 refine hSX.mono ?_
 rintro e w3 ⟨rfl,hx23⟩
 have hx3:=hx9.trans hx23
 clear hSX
 go_wp2_with fail
 go_at_call 111
 refine (HSY.out w3 hx3).mono ?_
 rintro e w4 ⟨rfl,hx34⟩
 have hx4:=hx3.trans hx34
 rw [sumN_natV,sumN_natV]
 have hci:=cmpInt_any (tot (fn (S.E n x)) n:Nat) (tot (fn (S.E n y)) n:Nat) w4
 have hcr:=cmpr_any w4 ax ay _ _ _ _ n cx cy _ _ (HRX.out.ext hx4) (HRY.out.ext hx4)
 obtain ⟨c1,hc1⟩:∃ c1,c1=Lib.compareInt (tot (fn (S.E n x)) n:Nat) (tot (fn (S.E n y)) n:Nat):=⟨_,rfl⟩
 obtain ⟨c2,hc2⟩:∃ c2,c2=cmpN n (fn (S.E n x)) (fn (S.E n y)):=⟨_,rfl⟩
 rw [←hc1] at hci
 rw [←hc2] at hcr
 have HC:=Lib.hid (show orI c1 c2=r from by rw [hc1,hc2,HR.out];rfl)
 clear hc1 hc2
 go_wp2_with fail
 go_at_call 110
 refine hci.mono ?_
 rintro e w5 ⟨rfl,rfl⟩
 clear hci
 go_wp2_with fail
 go_at_call 112
 refine hcr.mono ?_
 rintro e w6 ⟨rfl,rfl⟩
 clear hcr
 go_wp2_with fail
 have hor:=cmpOr_any (w4.alloc (.cells #[.int .i64 c1,.int .i64 c2] 3)) w4.heap.size c1 c2 (by simp) (by simp)
 rw [show (if (c1 != 0)=true then c1 else c2)=r from HC.out] at hor
 go_at_call 109
 refine hor.mono ?_
 rintro e w6 ⟨rfl,rfl⟩
 clear hor
 go_wp2_with fail
 go_ret
 exact ⟨rfl,hx4.trans (Ext.alloc _ _)⟩
end Go.Proofs.YtlfdfkbmollaaaaGreatDoor

namespace Go.Proofs.YtlfdfkbmollaaaaGreatDoor
open Go.RowKit Go.Shelf
attribute [local go_sem] Oper.semAt_some
structure SlcD.GOk (S:SlcD) (n:Nat):Prop where
 fn:S.f.s.n=n
 ln:S.l.s.n=n
 hn:n≤100
 b:∀ p,p<n→0≤S.f.z p∧S.f.z p≤1000∧S.l.z p≤1000
 lz:∀ p,p<n→0≤S.l.z p
 has:∀ x,x∈ownL S.f.z S.l.z n→S.Has n x
 few:(ownL S.f.z S.l.z n).length≤39
abbrev SlcD.own (S:SlcD) (n:Nat):List EvE:=ownL S.f.z S.l.z n
abbrev SlcD.rows (S:SlcD) (n:Nat) (G:List (List EvE)):List Row:=G.map fun g=>S.row n (g.headD (0,0))
theorem SlcD.rows_new (S:SlcD) (n:Nat) (G:List (List EvE)) (x:EvE):S.rows n (putL (G++[[]]) x)=S.rows n G++[S.row n x]:=by
 rw [putL_snoc];simp [SlcD.rows]
theorem SlcD.rows_cont {S:SlcD} {n:Nat} {E:EvE→List Nat} {d:Nat→EvE} {k:Nat} {G:List (List EvE)} (h:GrpI n E d k G) (h0:0<k) (x:EvE):S.rows n (putL G x)=S.rows n G:=by
 obtain ⟨G0,g,rfl,hl⟩:=h.last h0
 rw [putL_snoc]
 cases g with
 | nil => cases hl
 | cons a t => simp [SlcD.rows]
theorem IsGrp.congr {n:Nat} {E:EvE→List Nat} {P Q:EvE→Prop} {G:List (List EvE)} (h:IsGrp n E P G) (hp:∀ x,P x↔Q x):IsGrp n E Q G:=
 ⟨h.ne,fun x=>(h.mem x).trans (hp x),h.srt,h.eq,h.bef⟩
theorem Que.evm {w:World} {base N c:Nat} {a:Option Addr} {l:List EvE} (h:Que w base 2 (.slice a N c) N (evCells l)) (h0:0<N) (hl:l.length=N):∃ g o,a=some ⟨g,o,none⟩∧base≤g∧EvM w g o N (fun k=>l.getD k (0,0)):=by
 rcases h.val with ⟨_,_,hz,_⟩ | ⟨g,off,cap,hv,h1,h2,h3,h4,h5,h6⟩
 ·omega
 ·cases hv
  have hge:∀ k (hk:k<N),l[k]'(by omega)=l.getD k (0,0):=fun k hk=>by rw [List.getD_eq_getElem?_getD,List.getElem?_eq_getElem (by omega)];rfl
  refine ⟨g,off,rfl,h1,fun k hk=>?_,fun k hk=>?_,fun j hj=>(h6 j (Nat.lt_of_lt_of_le hj (Nat.mul_le_mul_right _ h3))).2,h2⟩
  ·rw [h5 (k*2) (by omega),evCells_get0 l k (by omega),hge k hk]
  ·rw [Nat.add_assoc,h5 (k*2+1) (by omega),evCells_get1 l k (by omega),hge k hk]
theorem own_srt (u v:Nat→Int) (n:Nat):Srtd lxE (fun k=>(ownL u v n).getD k (0,0)) 0 (ownL u v n).length:=fun i j _ h2 h3=>by
 have h:=List.pairwise_iff_getElem.1 (ownL_sorted (u:=u) (v:=v) (n:=n)) i j (by omega) h3 h2
 simp only [List.getD_eq_getElem?_getD]
 rw [List.getElem?_eq_getElem (by omega),List.getElem?_eq_getElem h3];exact h
theorem getD_memE {l:List EvE} {k:Nat} (h:k<l.length):l.getD k (0,0)∈l:=by
 rw [List.getD_eq_getElem?_getD,List.getElem?_eq_getElem h];exact List.getElem_mem h
theorem Im.memL {l:List EvE} {d:Nat→EvE} (h:Im (fun k=>l.getD k (0,0)) d 0 l.length) (x:EvE):(∃ j,j<l.length∧x=d j)↔x∈l:=by
 constructor
 ·rintro ⟨j,hj,rfl⟩
  obtain ⟨i,_,h2,h3⟩:=h.src j (Nat.zero_le _) hj
  rw [h3];exact getD_memE h2
 ·intro hx
  obtain ⟨i,hi,rfl⟩:=List.getElem_of_mem hx
  obtain ⟨j,_,h2,h3⟩:=h.img i (Nat.zero_le _) hi
  refine ⟨j,h2,?_⟩
  rw [←h3,List.getD_eq_getElem?_getD,List.getElem?_eq_getElem hi];rfl
theorem Que.frz {w:World} {base n g off cap:Nat} {xs:List Value} (h:Que w base 1 (.slice (some ⟨g,off,none⟩) n cap) n xs) {j:Nat} (hj:j<n):w.frozen? ⟨g,off+j,none⟩=false:=by
 rcases h.val with ⟨_,hv,hz,_⟩ | ⟨g',off',cap',hv,h1,h2,h3,h4,h5,h6⟩
 ·omega
 ·cases hv;exact (h6 j (by omega)).2
structure GFin (S:SlcD) (n:Nat) (G:List (List EvE)):Prop where
 ne:∀ g∈G,g≠[]
 of:∀ g∈G,∀ x∈g,x∈S.own n
 len:G.length≤39
 lens:∀ j,(G.getD j []).length≤39
def GrpdPost (S:SlcD) (n:Nat) (w:World) (e:Ending) (w':World):Prop:=
 Ext w w'∧∃ vg ve G,e=.returned (.tuple #[vg,ve])∧GrpQ w' w.heap.size vg G∧IsGrp n (S.E n) (·∈S.own n) G∧Que w' w.heap.size 1 ve (S.rows n G).length ((S.rows n G).map Row.val)∧GFin S n G
def OwnB (vg ve:Value) (b:Nat):Prop:=vg.ownBlock=some b∨ve.ownBlock=some b
theorem infoEvs2:(Tryz.prog.info? 68).map (fun i=>(i.zero,i.size,i.bytes))=some (some (.slice none 0 0),1,24):=by kernel_rfl
set_option maxHeartbeats 8000000 in
theorem grouped_any (w : World) (S : SlcD) (hS : S.At w) (n : Nat) (hO : S.GOk n) (hem : S.em = false) :
    Calls Tryz.prog 68 #[S.val] w (GrpdPost S n w):=by
 obtain ⟨j0,hj0,hy0,hy1,hy2⟩:=info_parts infoEv
 obtain ⟨m0,hm0,hz0,hz1,hz2⟩:=info_parts infoEvs2
 obtain ⟨q0,hq0,hr0,hr1,hr2⟩:=info_parts infoInts1
 have HS:=Lib.hid hS
 have HO:=Lib.hid hO
 have HOWN:=Lib.hid (fun W (x:Ext w W)=>(show Calls Tryz.prog 51 #[.slice S.f.s.a S.f.s.n S.f.s.c,.slice S.l.s.a S.l.s.n S.l.s.c] W (OwnPost S.f.z S.l.z n W) from by
  have h1:=hS.f.num.ext x
  have h2:=hS.l.num.ext x
  rw [hO.fn] at h1 ⊢
  rw [hO.ln] at h2 ⊢
  exact own_any W _ _ _ _ _ _ n _ _ _ _ h1 h2 hO.hn hO.b))
 unfold GrpdPost
 have hv:S.val=.agg #[.bool false,S.f.s.v,S.l.s.v,S.j.s.v]:=by rw [←hem]
 have HEM:=Lib.hid hem
 rw [hv]
 clear hS hO hem hv
 go_enter Tryz.func68,Tryz.ntmps68
 go_upto_region 1 with fail
 refine boxed1 (w:=w) (G:=fun x=>Code.wp _ _ _ _ x) ?_
 intro w1 hx1 hs1 ⟨l0,c0,_,k0⟩
 have hx11:Ext w1 w1:=Ext.refl _
 have HSB:=Lib.hid (show SBox w1 w.heap.size S from fun w' x i=>by rw [HEM.out];exact c0 w' x i)
 have HK1:=Lib.hid (show Hold w1 w.heap.size #[.bool false,S.f.s.v,S.l.s.v,S.j.s.v] from k0)
 clear hs1
 go_wp2_with fail
 go_at_call 51
 refine (HOWN.out w1 hx1).mono ?_
 rintro e w2 ⟨hx12,a2,cp2,rfl,hq2⟩
 have HF:=Lib.hid HO.out.few
 obtain ⟨N,hN⟩:∃ N,N=(ownL S.f.z S.l.z n).length:=⟨_,rfl⟩
 rw [←hN] at hq2 HF ⊢
 have HN:=Lib.hid hN
 have hN39:N≤39:=HF.out
 clear hN k0
 by_cases h0:0<N
 case neg=>
  have HNIL:=Lib.hid (show S.own n=[] from List.eq_nil_of_length_eq_zero (by have:=HN.out;show (ownL S.f.z S.l.z n).length=0;omega))
  obtain rfl:N=0:=by omega
  have hsn:=fun fv=>sortS_none w2 a2 cp2 fv
  clear h0 hq2 hN39
  go_wp2_with fail
  go_at_call 113
  refine (hsn _).mono ?_
  rintro e w3 ⟨rfl,rfl⟩
  clear hsn
  go_wp2_with fail
  refine wp_loop_rounds 1 ?_
  rw [rounds_succ]
  go_wp2_with fail
  go_ret2
  exact ⟨hx1.trans hx12,_,_,[],rfl,⟨fun _=>.bool false,Que.nil _ _ _,fun k hk=>absurd hk (Nat.not_lt_zero _)⟩,(GrpI.zero (fun _=>(0,0))).g.congr fun x=>⟨fun ⟨j,h,_⟩=>absurd h (Nat.not_lt_zero _),fun h=>by rw [HNIL.out] at h;cases h⟩,Que.nil _ _ _,⟨fun _ h=>(by cases h),fun _ h=>(by cases h),by simp,fun j=>by simp⟩⟩
 obtain ⟨g,o,rfl,hgb,hem⟩:=hq2.evm h0 HN.out.symm
 have HSW:=Lib.hid (show SrtW w1 g o N (fun k=>(ownL S.f.z S.l.z n).getD k (0,0)) w2 from ⟨hx12,hem⟩)
 obtain ⟨f,hf⟩:∃ f:Nat,f=108:=⟨_,rfl⟩
 have HCE:=Lib.hid (show CmpE w1 f #[.pointer (some ⟨w.heap.size,0,none⟩)] (S.Has n) (cfE n (S.E n)) from by
  rw [hf]
  exact ⟨enters_of Tryz.func108 (by kernel_rfl) rfl,fun W x a b ha hb=>grp1_any W S (HS.out.ext (hx1.trans x)) w.heap.size (fun w' y i=>HSB.out w' (x.trans y) i) n HO.out.hn a b ha hb⟩)
 have HHAS:=Lib.hid (show ∀ k,k<N→S.Has n ((ownL S.f.z S.l.z n).getD k (0,0)) from fun k hk=>HO.out.has _ (getD_memE (by rw [←HN.out];exact hk)))
 have HSORT:=Lib.hid (sortS_any w1 w2 g o N cp2 _ hgb HSW.out hN39 HCE.out (ordE fun x _=>S.E_len n x) HHAS.out (by rw [HN.out];exact own_srt _ _ _))
 clear hq2 hem hgb
 go_upto_region 5 with fail
 rw [show Fn.func 108=Fn.func f from by rw [hf]]
 clear hf
 go_wp2_with fail
 go_at_call 113
 refine HSORT.out.mono ?_
 rintro e w3 ⟨rfl,d,hw3,hi3,hs3⟩
 have HW3:=Lib.hid hw3
 have HIM:=Lib.hid (show Im (fun k=>(ownL S.f.z S.l.z n).getD k (0,0)) d 0 (ownL S.f.z S.l.z n).length from by rw [←HN.out];exact hi3)
 have HHD:=Lib.hid (show ∀ k,k<N→S.Has n (d k) from fun k hk=>hi3.all (fun k _ hk=>HHAS.out k hk) k (Nat.zero_le _) hk)
 have HSD:=Lib.hid hs3
 have hx13:=hw3.x
 have hxw3:=hx1.trans hx13
 clear HSORT HSW HHAS hw3 hi3 hs3
 go_wp2_with fail
 go_loopg [6,7,23] N (fun gg v6 v7 v23 wr=>∃ (k:Nat) (G:List (List EvE)) (NG:Nat→Value) (R:List Row),k≤N∧gg=N - k∧v23=.int .i64 k∧G.length≤k∧R.length=G.length∧Ext w3 wr∧Hid (GpI w3.heap.size G v6 v7 NG R wr)∧Hid (GrpI n (S.E n) d k G)∧Hid (R=S.rows n G)∧Hid (∀ j,(G.getD j []).length≤k))
 case atStart=>exact ⟨0,[],_,[],by omega,by omega,rfl,by simp,rfl,Ext.refl _,Lib.hid (GpI.start _ _),Lib.hid (GrpI.zero _),Lib.hid rfl,Lib.hid (fun j=>by simp)⟩
 case round=>
  obtain ⟨k,G,NG,R,hk,rfl,rfl,hGk,hRG,hxr,HG,HI,HRR,HLN⟩:=hrel
  have hxwr:=hxw3.trans hxr
  obtain ⟨ga,gc,hu6⟩:=HG.out.qg.slice
  obtain ⟨ea,ec,hu7⟩:=HG.out.qe.slice
  subst hu6 hu7
  by_cases hlt:k<N
  case neg=>
   obtain rfl:k=N:=by omega
   have HFI:=Lib.hid (show GrpQ wr w3.heap.size (.slice ga G.length gc) G from HG.out.grp)
   have HQE:=Lib.hid HG.out.qe
   go_wp2_with fail
   go_ret2
   refine ⟨hxwr,_,_,G,rfl,?_,HI.out.g.congr fun x=>?_,?_⟩
   ·obtain ⟨NG2,h1,h2⟩:=HFI.out
    exact ⟨NG2,h1.mono hxw3.le,fun k hk=>(h2 k hk).mono hxw3.le⟩
   ·rw [HN.out];exact HIM.out.memL x
   ·rw [←HRR.out]
    refine ⟨HQE.out.mono hxw3.le,HI.out.g.ne,fun g hg x hx=>?_,by omega,fun j=>Nat.le_trans (HLN.out j) (by omega)⟩
    have h1:=(HI.out.g.mem x).1 ⟨g,hg,hx⟩
    rw [HN.out] at h1
    exact (HIM.out.memL x).1 h1
  have hlt':(k:Int)<(N:Int):=by omega
  obtain ⟨⟨xp,xi⟩,hx⟩:∃ x,x=d k:=⟨_,rfl⟩
  have HXK:=Lib.hid hx
  have c0k:∀ w',Ext w3 w'→w'.cell? ⟨g,o+k*2,none⟩=some (.int .i64 xp):=fun w' x=>by rw [show xp=(d k).1 by rw [←hx]];exact x.cell (HW3.out.m.c0 k hlt)
  have c1k:∀ w',Ext w3 w'→w'.cell? ⟨g,o+k*2+1,none⟩=some (.int .i64 xi):=fun w' x=>by rw [show xi=(d k).2 by rw [←hx]];exact x.cell (HW3.out.m.c1 k hlt)
  have hgl:∀ w',Ext w3 w'→g<w'.heap.size:=fun w' x=>Nat.lt_of_lt_of_le HW3.out.m.lt x.le
  clear hx
  go_upto_region 11 with fail
  refine boxed1 (w:=wr) (G:=fun x=>Code.wp _ _ _ _ x) ?_
  intro w4 hx4 hs4 ⟨l4,c4,_,k4⟩
  have hx44:Ext w4 w4:=Ext.refl _
  have hx34:=hxr.trans hx4
  have HK4:=Lib.hid (show Hold w4 wr.heap.size #[.int .i64 xp,.int .i64 xi] from k4)
  have HG4:=Lib.hid (HG.out.ext hx4)
  have HVG:=Lib.hid (show ∀ b,(Value.slice ga G.length gc).ownBlock=some b→w3.heap.size≤b∧b<wr.heap.size from fun b e=>⟨HG.out.qg.block b e,(HG.out.ag b e).1⟩)
  have HNW:=Lib.hid (show ∀ j,j<G.length→∀ b,(NG j).ownBlock=some b→b<wr.heap.size from fun j hj b e=>(HG.out.qv j hj).2 b e)
  have HVE:=Lib.hid (show ∀ b,(Value.slice ea R.length ec).ownBlock=some b→w3.heap.size≤b∧b<wr.heap.size from fun b e=>⟨HG.out.qe.block b e,(HG.out.ae b e).1⟩)
  clear hs4 k4 c0k c1k
  obtain ⟨bb,hbb⟩:=exists_bool (k=0∨S.E n (d (k - 1))≠S.E n (d k))
  have HBB:=Lib.hid hbb
  clear hbb
  go_cut [40] (fun s40 wx=>s40=.bool bb∧Ext w4 wx)
  case first=>
   by_cases hk0:k=0
   ·have d0:((k:Int) == 0)=true:=by rw [hk0];rfl
    have d0':(k == 0)=true:=by rw [hk0];rfl
    have HB1:=Lib.hid (show bb=true from HBB.out.2 (.inl hk0))
    clear hk0
    refine wp_region_quiet_below (by kernel_rfl) (by kernel_rfl) ?_
    repeat (go_big_quiet_step (fail))
    refine wpQuiet_nil ?_
    intro _ hw'
    obtain ⟨⟨dq,osq⟩,hw''⟩:=hw'
    subst hw''
    have hxq:=below_regrown w4 dq osq
    go_wp2_with fail
    go_meet
    exact ⟨by rw [HB1.out],hxq⟩
   ·obtain ⟨kp,hkp⟩:∃ kp,k=kp+1:=⟨k - 1,by omega⟩
    have d0:((k:Int) == 0)=false:=by simp;omega
    have d0':(k == 0)=false:=by simp;omega
    have e1:(k:Int) - 1=(kp:Int):=by omega
    have e1w:IntKind.i64.wrap ((k:Int) - 1)=(kp:Int):=by rw [IntWalk.i64_in _ (by omega)];omega
    have hkpn:kp<N:=by omega
    have HKP:=Lib.hid hkp
    obtain ⟨⟨yp,yi⟩,hy⟩:∃ x,x=d kp:=⟨_,rfl⟩
    have b0k:∀ w',Ext w4 w'→w'.cell? ⟨g,o+kp*2,none⟩=some (.int .i64 yp):=fun w' x=>by rw [show yp=(d kp).1 by rw [←hy]];exact (hx34.trans x).cell (HW3.out.m.c0 kp hkpn)
    have b1k:∀ w',Ext w4 w'→w'.cell? ⟨g,o+kp*2+1,none⟩=some (.int .i64 yi):=fun w' x=>by rw [show yi=(d kp).2 by rw [←hy]];exact (hx34.trans x).cell (HW3.out.m.c1 kp hkpn)
    have HCC:=Lib.hid (fun W (x:Ext w4 W)=>(HCE.out.go W ((hx13.trans hx34).trans x) (yp,yi) (xp,xi) (by rw [hy];exact HHD.out kp hkpn) (by rw [HXK.out];exact HHD.out k hlt)))
    obtain ⟨r,hr⟩:∃ r,r=cfE n (S.E n) (yp,yi) (xp,xi):=⟨_,rfl⟩
    rw [←hr] at HCC
    have HB1:=Lib.hid (show (r != 0)=bb from by
     have h1:=cfE_zero (S.E_len n (d kp)) (S.E_len n (d k))
     rw [hr,hy,HXK.out]
     have h2:=HBB.out
     rw [show k - 1=kp by omega] at h2
     cases hc:(cfE n (S.E n) (d kp) (d k) != 0) with
     | true => exact (h2.2 (.inr fun h => by rw [h1.2 h] at hc;exact absurd hc (by decide))).symm
     | false =>
      cases hb2:bb with
      | false => rfl
      | true => exact absurd (h1.1 (by simpa using hc)) ((h2.1 hb2).resolve_left (by omega)))
    have eg:=HCE.out.en
    unfold Enters at eg
    have hg0:∀ d os,Ext w4 (Sort.grow (redrawn w4 d) os):=fun d os=>below_regrown w4 d os
    clear hy hr hkp hk0
    refine wp_region_quiet_below (by kernel_rfl) (by kernel_rfl) ?_
    repeat (go_big_quiet_step ((go_at_fn f;exact Calls.regrown_of (HCC.out _ (hg0 _ _)))))
    refine wpQuiet_nil ?_
    intro _ hw'
    obtain ⟨⟨dq,osq⟩,hw''⟩:=hw'
    subst hw''
    have hxq:=hg0 dq osq
    clear hg0
    go_wp2_with fail
    go_meet
    exact ⟨by rw [HB1.out],hxq⟩
  case rest=>
  obtain ⟨rfl,hx45⟩:=hcut
  obtain ⟨w5,hw5⟩:∃ w5,w5=wc:=⟨_,rfl⟩
  rw [←hw5] at hx45 ⊢
  clear hw5 l4 c4 hx44
  have hx35:=hx34.trans hx45
  have hxw5:=hxw3.trans hx35
  have HG5:=Lib.hid (HG4.out.ext hx45)
  have HK5:=Lib.hid (HK4.out.ext hx45)
  have HB5:=Lib.hid (HK1.out.ext (hx13.trans hx35))
  go_upto_if 40 with fail
  go_cut [6,7] from 28 to 64 (fun s6 s7 wx=>∃ (Gc:List (List EvE)) (NGc:Nat→Value) (Rc:List Row),0<Gc.length∧Gc.length≤k+1∧Rc.length=Gc.length∧Hid (GpI w3.heap.size Gc s6 s7 NGc Rc wx)∧Hid (GrpI n (S.E n) d (k+1) (putL Gc (d k)))∧Hid (Rc=S.rows n (putL Gc (d k)))∧Ext w3 wx∧Hid (Hold wx wr.heap.size #[.int .i64 xp,.int .i64 xi])∧Hid (∀ j,(Gc.getD j []).length≤k)∧Hid (∀ b,s6.ownBlock=some b→b≠wr.heap.size)∧Hid (∀ j b,j<Gc.length→(NGc j).ownBlock=some b→b≠wr.heap.size))
  case first=>
   cases hb2:bb with
   | false =>
    have HNB:=Lib.hid (show ¬(k=0∨S.E n (d (k - 1))≠S.E n (d k)) from fun h=>by have:=HBB.out.2 h;rw [hb2] at this;cases this)
    clear hb2
    have HK0:=Lib.hid (show 0<k from Nat.pos_of_ne_zero fun h=>HNB.out (.inl h))
    have HEQ:=Lib.hid (show S.E n (d (k - 1))=S.E n (d k) from Classical.byContradiction fun h=>HNB.out (.inr h))
    have HLG:=Lib.hid (show 0<G.length from by
     obtain ⟨G0,g1,h1,_⟩:=HI.out.last HK0.out
     rw [h1];simp)
    go_wp2_with fail
    go_meet
    exact ⟨G,NG,R,HLG.out,by omega,hRG,HG5,Lib.hid (HI.out.cont hlt HSD.out HK0.out HEQ.out),Lib.hid (by rw [S.rows_cont HI.out HK0.out];exact HRR.out),hx35,HK5,HLN,Lib.hid (fun b e=>Nat.ne_of_lt (HVG.out b e).2),Lib.hid (fun j b hj e=>Nat.ne_of_lt (HNW.out j hj b e))⟩
   | true =>
    have HNC:=Lib.hid (show k=0∨S.E n (d (k - 1))≠S.E n (d k) from HBB.out.1 hb2)
    clear hb2
    have HBS:=Lib.hid (show ∀ w',Cg (OwnB (.slice ga G.length gc) (.slice ea R.length ec)) w5 w'→∀ i,w'.cell? ⟨w.heap.size,i,none⟩=#[.bool false,S.f.s.v,S.l.s.v,S.j.s.v][i]? from (HB5.out.boxG (by
     have h1:=HB5.out.lt
     have h2:=HK1.out.lt
     have h3:=hx13.le
     rintro (e | e)
     ·have:=HVG.out _ e;omega
     ·have:=HVE.out _ e;omega)).2)
    have hwr5:wr.heap.size≤w5.heap.size:=(hx4.trans hx45).le
    have HNE:=Lib.hid (show ¬OwnB (.slice ga G.length gc) (.slice ea R.length ec) wr.heap.size from by
     rintro (e | e)
     ·have:=HVG.out _ e;omega
     ·have:=HVE.out _ e;omega)
    have HBX:=Lib.hid (show ∀ w',Cg (OwnB (.slice ga G.length gc) (.slice ea R.length ec)) w5 w'→∀ i,w'.cell? ⟨wr.heap.size,i,none⟩=#[Value.int .i64 xp,.int .i64 xi][i]? from (HK5.out.boxG HNE.out).2)
    have HEL:=Lib.hid (fun W (x:Ext w3 W)=>(show Calls Tryz.prog 53 #[.agg #[.bool false,S.f.s.v,S.l.s.v,S.j.s.v],.agg #[.int .i64 xp,.int .i64 xi]] W (fun e w'=>e=.returned (S.row n (xp,xi)).val∧Ext W w') from by
     have h:=elem_any W S (HS.out.ext (hxw3.trans x)) n (xp,xi) (by rw [HXK.out];exact HHD.out k hlt)
     rw [show S.val=.agg #[.bool false,S.f.s.v,S.l.s.v,S.j.s.v] by rw [←HEM.out]] at h
     exact h))
    obtain ⟨rv,hrv⟩:∃ z,z=(S.row n (xp,xi)).val:=⟨_,rfl⟩
    have hrs:∃ a b c,rv=.slice a b c:=⟨_,_,_,hrv⟩
    obtain ⟨ra,rn,rc,hrs⟩:=hrs
    rw [←hrv,hrs] at HEL
    have HRV:=Lib.hid (show Value.slice ra rn rc=(S.row n (xp,xi)).val from by rw [←hrs];exact hrv)
    clear hrv hrs
    obtain ⟨KG,hKK⟩:∃ z,z=G.length:=⟨_,rfl⟩
    obtain ⟨MR,hMM⟩:∃ z,z=R.length:=⟨_,rfl⟩
    have HKM:=Lib.hid (And.intro hKK hMM)
    have hK40:KG≤40:=by omega
    have hM40:MR≤40:=by omega
    rw [←hKK] at HBS HBX HVG HG5 HNE ⊢
    rw [←hMM] at HBS HBX HVE HG5 HNE ⊢
    have hHL:=hKK
    clear hKK hMM hHL
    go_upto_region 12 with fail
    refine wp_region_T (t:=11) (S:=Cg (OwnB (.slice ga KG gc) (.slice ea MR ec)) w5) (R:=fun _=>True) (by kernel_rfl) (Cg.drew (Cg.refl _ _)) trivial (fun hHeld=>?_)
    have HX:=Lib.hid (hx35.drew)
    have HG:=Lib.hid (HG5.out.ext (Ext.refl w5).drew)
    generalize w5.drew=v00 at HX HG hHeld ⊢
    refine takeS 0 (v:=?_) rfl (by kernel_rfl) (by kernel_rfl) (by kernel_rfl) (fun _ _ _ h=>h) (by decide) (Or.inl ⟨by rfl,?_⟩) hHeld.1 hHeld.2 ?_
    rotate_left
    ·intro w' hSw
     have z0:=HBS.out w' hSw
     have z1:=HBX.out w' hSw
     have z2:=hSw.le
     have hSS:=Ext.refl w'
     go_simp
     try with_reducible rfl
    try simp only [Act.put,zA,zB,zC]
    refine takeS 3 (v:=?_) rfl (by kernel_rfl) (by kernel_rfl) (by kernel_rfl) (fun _ _ _ h=>h) (by decide) (Or.inl ⟨by rfl,?_⟩) hHeld.1 hHeld.2 ?_
    rotate_left
    ·intro w' hSw
     have z0:=HBS.out w' hSw
     have z1:=HBX.out w' hSw
     have z2:=hSw.le
     have hSS:=Ext.refl w'
     go_simp
     try with_reducible rfl
    try simp only [Act.put,zA,zB,zC]
    refine takeS 4 (v:=?_) rfl (by kernel_rfl) (by kernel_rfl) (by kernel_rfl) (fun _ _ _ h=>h) (by decide) (Or.inl ⟨by rfl,?_⟩) hHeld.1 hHeld.2 ?_
    rotate_left
    ·intro w' hSw
     have z0:=HBS.out w' hSw
     have z1:=HBX.out w' hSw
     have z2:=hSw.le
     have hSS:=Ext.refl w'
     go_simp
     try with_reducible rfl
    try simp only [Act.put,zA,zB,zC]
    refine takeS 5 (v:=?_) rfl (by kernel_rfl) (by kernel_rfl) (by kernel_rfl) (fun _ _ _ h=>h) (by decide) (Or.inl ⟨by rfl,?_⟩) hHeld.1 hHeld.2 ?_
    rotate_left
    ·intro w' hSw
     have z0:=HBS.out w' hSw
     have z1:=HBX.out w' hSw
     have z2:=hSw.le
     have hSS:=Ext.refl w'
     go_simp
     try with_reducible rfl
    try simp only [Act.put,zA,zB,zC]
    refine wpAnyT_ready (rs:=[1]) (by kernel_rfl) (by simp) ?_
    refine AllReadyT.cons rfl (fun K hK=>?_) AllReadyT.nil
    go_simp
    have hle:=hHeld.1.le
    refine hK.out _ _ ⟨Cg.alloc hHeld.1 _,trivial⟩ (fun hH2=>?_)
    clear hK K
    try simp only [Act.put,zA,zB,zC]
    have HX2:=Lib.hid (Ext.alloc' HX.out (.cells #[.slice none 0 0] 68))
    have HG2:=Lib.hid (GpI.ext HG.out (Ext.alloc v00 (.cells #[.slice none 0 0] 68)))
    have HNA:=Lib.hid (And.intro (Hold.new v00 #[.slice none 0 0] 68) hle)
    clear HX HG hHeld hle
    have HX:=HX2
    have HG:=HG2
    have hHeld:=hH2
    clear HX2 HG2 hH2
    obtain ⟨bA,hbz⟩:∃ z,z=(v00).heap.size:=⟨_,rfl⟩
    rw [←hbz] at HNA ⊢
    clear hbz
    generalize World.alloc v00 (.cells #[.slice none 0 0] 68)=v01 at HX HG hHeld HNA ⊢
    refine wpAnyT_ready (rs:=[2]) (by kernel_rfl) (by simp) ?_
    refine AllReadyT.cons rfl (fun K hK=>?_) AllReadyT.nil
    have hwW:=HX.out.le
    have hqg:=HG.out.qg
    rw [←HKM.out.1] at hqg
    refine step_appendG _ rfl _ _ 46 46 rfl (base:=w3.heap.size) (e:=68) (size:=1) m0 (.slice none 0 0) 24 Tryz.underlying46 hm0 hz0 hz1 hz2 rfl (v:=.slice ga KG gc) (n:=KG) (xs:=(List.range KG).map NG) rfl hqg hwW (.slice (some ⟨bA,0,none⟩) 1 1) 1 [.slice none 0 0] rfl (HNA.out.1.srcG Tryz.underlying46 rfl (by intro u hu;simp at hu;subst hu;rfl)) (by unfold maxLen;omega) (by omega) ?_
    intro vz v02 hq hg ho
    obtain ⟨za,zc,hsl⟩:=hq.slice
    subst hsl
    refine hK.out _ _ ⟨hHeld.1.grown hg (fun g e=>.inl (.inl e)),trivial⟩ (fun hH2=>?_)
    clear hK K
    simp only [Act.put,List.getElem_toArray,List.getElem_cons_succ,List.getElem_cons_zero,List.setIfInBounds_toArray,List.set_cons_zero,List.set_cons_succ]
    have HX2:=Lib.hid (show Ext w3 v02 from Below.grown HX.out hg hwW (fun g e=>(HVG.out g e).1))
    have HVN:=Lib.hid (show ∀ b,(Value.slice za (KG+1) zc).ownBlock=some b→b≠wr.heap.size from fun b e=>by
     rcases ho with h1 | h1
     ·rw [h1] at e;exact Nat.ne_of_lt (HVG.out b e).2
     ·rw [h1] at e;have h2:v01.heap.size=b:=by simpa using e
      have h3:=hHeld.1.le;have h4:=HK5.out.lt;omega)
    have HG2:=Lib.hid (GpI.pushG HG.out hg (by rw [←HKM.out.1];exact hq) ho)
    clear HX HG hHeld hqg hwW hq hg ho HNA
    have HX:=HX2
    have HG:=HG2
    have hHeld:=hH2
    clear HX2 HG2 hH2
    refine wpAnyT_ready (rs:=[6]) (by kernel_rfl) (by simp) ?_
    refine AllReadyT.cons rfl (fun K hK=>?_) AllReadyT.nil
    go_simp
    go_at_call 53
    refine (HEL.out v02 HX.out).mono ?_
    rintro e v03 ⟨rfl,hxl⟩
    refine hK.out _ _ ⟨hHeld.1.trans (hxl.cg _),trivial⟩ (fun hH2=>?_)
    clear hK K
    try simp only [Act.put,zA,zB,zC]
    have HX2:=Lib.hid (HX.out.trans hxl)
    have HG2:=Lib.hid (GpI.ext HG.out hxl)
    clear HX HG hHeld hxl
    have HX:=HX2
    have HG:=HG2
    have hHeld:=hH2
    clear HX2 HG2 hH2
    refine wpAnyT_ready (rs:=[7]) (by kernel_rfl) (by simp) ?_
    refine AllReadyT.cons rfl (fun K hK=>?_) AllReadyT.nil
    go_simp
    have hle:=hHeld.1.le
    refine hK.out _ _ ⟨Cg.alloc hHeld.1 _,trivial⟩ (fun hH2=>?_)
    clear hK K
    try simp only [Act.put,zA,zB,zC]
    have HX2:=Lib.hid (Ext.alloc' HX.out (.cells #[.slice ra rn rc] 27))
    have HG2:=Lib.hid (GpI.ext HG.out (Ext.alloc v03 (.cells #[.slice ra rn rc] 27)))
    have HNB:=Lib.hid (And.intro (Hold.new v03 #[.slice ra rn rc] 27) hle)
    clear HX HG hHeld hle
    have HX:=HX2
    have HG:=HG2
    have hHeld:=hH2
    clear HX2 HG2 hH2
    obtain ⟨bB,hbz⟩:∃ z,z=(v03).heap.size:=⟨_,rfl⟩
    rw [←hbz] at HNB ⊢
    clear hbz
    generalize World.alloc v03 (.cells #[.slice ra rn rc] 27)=v04 at HX HG hHeld HNB ⊢
    refine wpAnyT_ready (rs:=[8]) (by kernel_rfl) (by simp) ?_
    refine AllReadyT.cons rfl (fun K hK=>?_) AllReadyT.nil
    have hwW:=HX.out.le
    have hqg:=HG.out.qe
    rw [←HKM.out.2] at hqg
    refine step_appendG _ rfl _ _ 64 64 rfl (base:=w3.heap.size) (e:=27) (size:=1) q0 (.slice none 0 0) 24 Tryz.underlying64 hq0 hr0 hr1 hr2 rfl (v:=.slice ea MR ec) (n:=MR) (xs:=R.map Row.val) rfl hqg hwW (.slice (some ⟨bB,0,none⟩) 1 1) 1 [.slice ra rn rc] rfl (HNB.out.1.srcG Tryz.underlying64 rfl (by intro u hu;simp at hu;subst hu;rfl)) (by unfold maxLen;omega) (by omega) ?_
    intro vz v05 hq hg ho
    obtain ⟨za,zc,hsl⟩:=hq.slice
    subst hsl
    refine hK.out _ _ ⟨hHeld.1.grown hg (fun g e=>.inl (.inr e)),trivial⟩ (fun hH2=>?_)
    clear hK K
    simp only [Act.put,List.getElem_toArray,List.getElem_cons_succ,List.getElem_cons_zero,List.setIfInBounds_toArray,List.set_cons_zero,List.set_cons_succ]
    have HX2:=Lib.hid (show Ext w3 v05 from Below.grown HX.out hg hwW (fun g e=>(HVE.out g e).1))
    have HG2:=Lib.hid (GpI.pushE (r:=S.row n (xp,xi)) HG.out hg (by rw [←HKM.out.2,←HRV.out];exact hq) ho)
    clear HX HG hHeld hqg hwW hq hg ho HNB
    have HX:=HX2
    have HG:=HG2
    have hHeld:=hH2
    clear HX2 HG2 hH2
    refine takeS 9 (v:=?_) rfl (by kernel_rfl) (by kernel_rfl) (by kernel_rfl) (fun _ _ _ h=>h) (by decide) (Or.inl ⟨by rfl,?_⟩) hHeld.1 hHeld.2 ?_
    rotate_left
    ·intro w' hSw
     have z0:=HBS.out w' hSw
     have z1:=HBX.out w' hSw
     have z2:=hSw.le
     have hSS:=Ext.refl w'
     go_simp
     try with_reducible rfl
    try simp only [Act.put,zA,zB,zC]
    refine takeS 10 (v:=?_) rfl (by kernel_rfl) (by kernel_rfl) (by kernel_rfl) (fun _ _ _ h=>h) (by decide) (Or.inl ⟨by rfl,?_⟩) hHeld.1 hHeld.2 ?_
    rotate_left
    ·intro w' hSw
     have z0:=HBS.out w' hSw
     have z1:=HBX.out w' hSw
     have z2:=hSw.le
     have hSS:=Ext.refl w'
     go_simp
     try with_reducible rfl
    try simp only [Act.put,zA,zB,zC]
    refine wpAnyT_done (by kernel_rfl) ?_ _
    have HKL:=Lib.hid (HK5.out.cg hHeld.1 HNE.out)
    clear hHeld
    go_wp2_with fail
    go_meet
    exact ⟨G++[[]],_,_,by simp,by rw [List.length_append];show G.length+1≤k+1;omega,by rw [List.length_append,List.length_append,hRG];rfl,HG,Lib.hid (by rw [putL_snoc];exact HI.out.start hlt HSD.out HNC.out),Lib.hid (by rw [S.rows_new,←HRR.out,←HXK.out]),HX.out,HKL,Lib.hid (fun j=>by rw [getD_snocE];exact HLN.out j),HVN,Lib.hid (fun j b hj e=>by
     unfold up at e
     split at e
     ·cases e
     ·next h=>rw [List.length_append] at hj;have hj2:j<G.length+1:=hj;exact Nat.ne_of_lt (HNW.out j (by omega) b e))⟩
  case rest=>
  obtain ⟨Gc,NGc,Rc,h0c,hck,hrc,HGc,HIc,HRc,hx3c,HKc,HLC,H6B,HNB2⟩:=hcut
  have HRL:=Lib.hid hrc
  clear hrc
  obtain ⟨w6,hw6⟩:∃ w6,w6=wc:=⟨_,rfl⟩
  rw [←hw6] at HGc hx3c HKc ⊢
  clear hw6
  obtain ⟨e7a,e7c,hu7⟩:=HGc.out.qe.slice
  obtain ⟨gb,go',gcap,hu6,hgb1,hgb2,hgb3,hcells⟩:=HGc.out.qg.shape h0c
  subst hu6 hu7
  obtain ⟨J,hJ⟩:∃ J,Gc.length=J+1:=⟨Gc.length - 1,by omega⟩
  obtain ⟨na,nc,hnv⟩:=(HGc.out.qv J (by omega)).1.slice
  have hL:(Gc.getD J []).length≤39:=by have:=HLC.out J;omega
  have HQ9:=Lib.hid (HGc.out.qv J (by omega)).1
  obtain ⟨L,hLL⟩:∃ L,L=(Gc.getD J []).length:=⟨_,rfl⟩
  rw [←hLL] at hnv hL
  have hLq:L≤39:=hL
  have HNV:=Lib.hid (And.intro hnv hLL)
  have q9:∀ w',Ext w6 w'→w'.cell? ⟨gb,go'+J,none⟩=some (.slice na L nc):=fun w' x=>by
   refine x.cell ?_
   rw [hcells J (by omega)]
   simp [hJ,hnv]
  have q9b:∀ w',Ext w6 w'→gb<w'.heap.size:=fun w' x=>Nat.lt_of_lt_of_le hgb2 x.le
  have HFR:=Lib.hid (show w6.frozen? ⟨gb,go'+J,none⟩=false from HGc.out.qg.frz (by omega))
  have HGB:=Lib.hid (show w3.heap.size≤gb∧gb≠wr.heap.size∧∀ b,(Value.slice na L nc).ownBlock=some b→w3.heap.size≤b∧b<w6.heap.size∧b≠gb∧b≠wr.heap.size from by
   refine ⟨hgb1,H6B.out gb rfl,fun b e=>?_⟩
   rw [←HNV.out.1] at e
   exact ⟨(HGc.out.qv J (by omega)).1.block b e,(HGc.out.qv J (by omega)).2 b e,fun e2=>(HGc.out.ag gb rfl).2.2 J (by omega) (by rw [←e2];exact e),HNB2.out J b (by omega) e⟩)
  have HNO:=Lib.hid (show ¬((Value.slice na L nc).ownBlock=some wr.heap.size∨wr.heap.size=gb) from fun h=>h.elim (fun e=>(HGB.out.2.2 _ e).2.2.2 rfl) fun e=>HGB.out.2.1 e.symm)
  have HBX:=Lib.hid (show ∀ w',Cg (fun b=>(Value.slice na L nc).ownBlock=some b∨b=gb) w6 w'→∀ i,w'.cell? ⟨wr.heap.size,i,none⟩=#[Value.int .i64 xp,.int .i64 xi][i]? from (HKc.out.boxG HNO.out).2)
  have HBS:=HBX
  have HCJ:=Lib.hid (show w6.cell? ⟨gb,go'+J,none⟩=some (.slice na L nc) from q9 w6 (Ext.refl _))
  have HJ2:=Lib.hid hJ
  obtain ⟨Kc,hKc⟩:∃ z,z=Gc.length:=⟨_,rfl⟩
  have HKC:=Lib.hid hKc
  rw [←hKc]
  have hKJ:Kc=J+1:=by omega
  have e1:(Kc:Int) - 1=(J:Int):=by omega
  have e1w:IntKind.i64.wrap ((Kc:Int) - 1)=(J:Int):=by rw [IntWalk.i64_in _ (by omega)];omega
  have hJK:(J:Int)<(Kc:Int):=by omega
  have e2w:IntKind.i64.wrap (J:Int)=(J:Int):=IntWalk.i64_in _ (by omega)
  have hKb:Kc≤40:=by omega
  clear hKc hJ hKJ hnv hLL hL hcells hgb3
  go_upto_region 13 with fail
  refine wp_region_T (t:=12) (S:=Cg (fun b=>(Value.slice na L nc).ownBlock=some b∨b=gb) w6) (R:=fun w'=>Ext w6 w') (by kernel_rfl) (Cg.drew (Cg.refl _ _)) (Ext.refl w6).drew (fun hHeld=>?_)
  generalize w6.drew=w60 at hHeld ⊢
  refine takeS 0 (v:=?_) rfl (by kernel_rfl) (by kernel_rfl) (by kernel_rfl) (fun _ _ _ h=>h) (by decide) (Or.inl ⟨by rfl,?_⟩) hHeld.1 hHeld.2 ?_
  rotate_left
  ·intro w' hSw
   have z0:=HBS.out w' hSw
   have z1:=HBX.out w' hSw
   have z2:=hSw.le
   have hSS:=Ext.refl w'
   go_simp
   try with_reducible rfl
  try simp only [Act.put,zA,zB,zC]
  refine takeS 1 (v:=?_) rfl (by kernel_rfl) (by kernel_rfl) (by kernel_rfl) (fun _ _ _ h=>h) (by decide) (Or.inl ⟨by rfl,?_⟩) hHeld.1 hHeld.2 ?_
  rotate_left
  ·intro w' hSw
   have z0:=HBS.out w' hSw
   have z1:=HBX.out w' hSw
   have z2:=hSw.le
   have hSS:=Ext.refl w'
   go_simp
   try with_reducible rfl
  try simp only [Act.put,zA,zB,zC]
  refine takeS 2 (v:=?_) rfl (by kernel_rfl) (by kernel_rfl) (by kernel_rfl) (fun _ _ _ h=>h) (by decide) (Or.inl ⟨by rfl,?_⟩) hHeld.1 hHeld.2 ?_
  rotate_left
  ·intro w' hSw
   have z0:=HBS.out w' hSw
   have z1:=HBX.out w' hSw
   have z2:=hSw.le
   have hSS:=Ext.refl w'
   go_simp
   try with_reducible rfl
  try simp only [Act.put,zA,zB,zC]
  refine takeS 3 (v:=?_) rfl (by kernel_rfl) (by kernel_rfl) (by kernel_rfl) (fun _ _ _ h=>h) (by decide) (Or.inl ⟨by rfl,?_⟩) hHeld.1 hHeld.2 ?_
  rotate_left
  ·intro w' hSw
   have z0:=HBS.out w' hSw
   have z1:=HBX.out w' hSw
   have z2:=hSw.le
   have hSS:=Ext.refl w'
   go_simp
   try with_reducible rfl
  try simp only [Act.put,zA,zB,zC]
  refine takeS 4 (v:=?_) rfl (by kernel_rfl) (by kernel_rfl) (by kernel_rfl) (fun _ _ _ h=>h) (by decide) (Or.inl ⟨by rfl,?_⟩) hHeld.1 hHeld.2 ?_
  rotate_left
  ·intro w' hSw
   have z0:=HBS.out w' hSw
   have z1:=HBX.out w' hSw
   have z2:=hSw.le
   have hSS:=Ext.refl w'
   go_simp
   try with_reducible rfl
  try simp only [Act.put,zA,zB,zC]
  refine takeS 5 (v:=?_) rfl (by kernel_rfl) (by kernel_rfl) (by kernel_rfl) (fun _ _ _ h=>h) (by decide) (Or.inl ⟨by rfl,?_⟩) hHeld.1 hHeld.2 ?_
  rotate_left
  ·intro w' hSw
   have z0:=HBS.out w' hSw
   have z1:=HBX.out w' hSw
   have z2:=hSw.le
   have hSS:=Ext.refl w'
   go_simp
   try with_reducible rfl
  try simp only [Act.put,zA,zB,zC]
  refine takeS 6 (v:=?_) rfl (by kernel_rfl) (by kernel_rfl) (by kernel_rfl) (fun _ _ _ h=>h) (by decide) (Or.inl ⟨by rfl,?_⟩) hHeld.1 hHeld.2 ?_
  rotate_left
  ·intro w' hSw
   have z0:=HBS.out w' hSw
   have z1:=HBX.out w' hSw
   have z2:=hSw.le
   have hSS:=Ext.refl w'
   go_simp
   try with_reducible rfl
  try simp only [Act.put,zA,zB,zC]
  refine takeS 7 (v:=?_) rfl (by kernel_rfl) (by kernel_rfl) (by kernel_rfl) (fun _ _ _ h=>h) (by decide) (Or.inl ⟨by rfl,?_⟩) hHeld.1 hHeld.2 ?_
  rotate_left
  ·intro w' hSw
   have z0:=HBS.out w' hSw
   have z1:=HBX.out w' hSw
   have z2:=hSw.le
   have hSS:=Ext.refl w'
   go_simp
   try with_reducible rfl
  try simp only [Act.put,zA,zB,zC]
  refine takeS 8 (v:=?_) rfl (by kernel_rfl) (by kernel_rfl) (by kernel_rfl) (fun _ _ _ h=>h) (by decide) (Or.inl ⟨by rfl,?_⟩) hHeld.1 hHeld.2 ?_
  rotate_left
  ·intro w' hSw
   have z0:=HBS.out w' hSw
   have z1:=HBX.out w' hSw
   have z2:=hSw.le
   have hSS:=Ext.refl w'
   go_simp
   try with_reducible rfl
  try simp only [Act.put,zA,zB,zC]
  refine takeR 9 (v:=?_) rfl (by kernel_rfl) (by kernel_rfl) (by kernel_rfl) (by kernel_rfl) (by kernel_rfl) (fun _ _ _ h=>h) (by decide) (Or.inl ⟨by rfl,?_⟩) hHeld.1 hHeld.2 ?_
  rotate_left
  ·intro w' hSw
   have hSX:=hSw.2
   have hSS:=Ext.refl w'
   go_simp
   try with_reducible rfl
  try simp only [Act.put,zA,zB,zC]
  refine takeS 10 (v:=?_) rfl (by kernel_rfl) (by kernel_rfl) (by kernel_rfl) (fun _ _ _ h=>h) (by decide) (Or.inl ⟨by rfl,?_⟩) hHeld.1 hHeld.2 ?_
  rotate_left
  ·intro w' hSw
   have z0:=HBS.out w' hSw
   have z1:=HBX.out w' hSw
   have z2:=hSw.le
   have hSS:=Ext.refl w'
   go_simp
   try with_reducible rfl
  try simp only [Act.put,zA,zB,zC]
  have hS6:=hHeld.1
  have hR6:=hHeld.2
  refine wpAnyT_ready (rs:=[11]) (by kernel_rfl) (by simp) ?_
  refine AllReadyT.cons rfl (fun K hK=>?_) AllReadyT.nil
  go_simp
  refine hK.out _ _ ⟨Cg.alloc hS6 _,hR6.alloc' _⟩ (fun hHeld2=>?_)
  clear hK K
  try simp only [Act.put,zA,zB,zC]
  clear hHeld
  have HQ10:=Lib.hid (show Que (World.alloc w60 (.cells #[.int .i64 xp,.int .i64 xi] 70)) w3.heap.size 2 (.slice na L nc) L (evCells (Gc.getD J [])) from by
   have h:=HQ9.out
   rw [HNV.out.1,←HNV.out.2] at h
   exact (h.ext hR6).ext (Ext.alloc _ _))
  have hS7:=Cg.alloc hS6 (.cells #[.int .i64 xp,.int .i64 xi] 70)
  have hR7:=hR6.alloc' (.cells #[.int .i64 xp,.int .i64 xi] 70)
  have HN7:=Lib.hid (Hold.new w60 #[.int .i64 xp,.int .i64 xi] 70)
  obtain ⟨bN,hbN⟩:∃ z,z=w60.heap.size:=⟨_,rfl⟩
  rw [←hbN] at HN7 ⊢
  generalize World.alloc w60 (.cells #[.int .i64 xp,.int .i64 xi] 70)=w7 at HQ10 hS7 hR7 HN7 hHeld2 ⊢
  refine wpAnyT_ready (rs:=[12]) (by kernel_rfl) (by simp) ?_
  refine AllReadyT.late rfl (by decide) (fun K hK=>?_) AllReadyT.nil
  refine step_appendG _ rfl _ _ 68 68 rfl (base:=w3.heap.size) (e:=70) (size:=2) j0 (.agg #[.int .i64 0,.int .i64 0]) 16 Tryz.underlying68 hj0 hy0 hy1 hy2 rfl (v:=.slice na L nc) (n:=L) (xs:=evCells (Gc.getD J [])) rfl HQ10.out (by have:=hx3c.le;have:=hR7.le;omega) (.slice (some ⟨bN,0,none⟩) 1 1) 1 [.int .i64 xp,.int .i64 xi] rfl (HN7.out.srcG Tryz.underlying68 rfl (by intro u hu;simp at hu;rcases hu with rfl | rfl <;> rfl)) (by unfold maxLen;omega) (by omega) ?_
  intro vz w8 hq hg ho
  have hS8:Cg (fun b=>(Value.slice na L nc).ownBlock=some b∨b=gb) w6 w8:=hS7.grown hg (fun g e=>.inl (.inl e))
  refine hK.out _ _ hS8 (fun hHeld3=>?_)
  clear hK K
  simp only [Act.put,List.getElem_toArray,List.getElem_cons_succ,List.getElem_cons_zero,List.setIfInBounds_toArray,List.set_cons_zero,List.set_cons_succ]
  have hb8:w8.heap[gb]?=w6.heap[gb]?:=(hg.block gb (Nat.lt_of_lt_of_le hgb2 hR7.le) fun e=>(HGB.out.2.2 _ e.symm).2.2.1 rfl).trans (hR7.block gb hgb2)
  have s0:w8.cell? ⟨gb,go'+J,none⟩=some (.slice na L nc):=(World.cell?_of_block (w:=w6) (a:=⟨gb,go'+J,none⟩) hb8).trans HCJ.out
  have s1:w8.frozen? ⟨gb,go'+J,none⟩=false:=(World.frozen?_of_block (w:=w6) (a:=⟨gb,go'+J,none⟩) hb8).trans HFR.out
  have s2:gb<w8.heap.size:=by have:=hg.size;have:=hR7.le;omega
  have HG9:=Lib.hid (show GpI w3.heap.size (putL Gc (d k)) (.slice (some ⟨gb,go',none⟩) Kc gcap) (.slice e7a Rc.length e7c) (up NGc (Gc.length - 1) vz) Rc (w8.setCell ⟨gb,go'+J,none⟩ vz) from by
   have hJ1:Gc.length - 1=J:=by have:=HJ2.out;omega
   have h:=GpI.put ((HGc.out.ext hR7)) (x:=d k) (v':=vz) (w':=w8) (by have:=HJ2.out;omega) (by rw [hJ1,HNV.out.1];exact hg) (by rw [hJ1,←HNV.out.2,evCells_snoc,←HXK.out];exact hq) (by rw [hJ1,HNV.out.1];exact ho) (g:=gb) (o:=go') (c:=gcap) rfl
   rw [hJ1] at h ⊢
   rw [HKC.out];exact h)
  have HX9:=Lib.hid (show Ext w3 (w8.setCell ⟨gb,go'+J,none⟩ vz) from (Below.grown (hx3c.trans hR7) hg (by have:=hx3c.le;have:=hR7.le;omega) (fun g e=>(HGB.out.2.2 g e).1)).setCell HGB.out.1 _)
  obtain ⟨vza,vzc,hvz⟩:=hq.slice
  have hS9:Cg (fun b=>(Value.slice na L nc).ownBlock=some b∨b=gb) w6 (w8.setCell ⟨gb,go'+J,none⟩ vz):=hS8.set _ _ (.inr rfl)
  subst hvz
  have HS9:=Lib.hid hS9
  have HS8:=Lib.hid hS8
  clear hS6 hR6 hHeld2 hHeld3 hS7 hR7 hg ho hq hS8 hS9 hb8 q9 q9b
  have h88:Ext w8 w8:=Ext.refl _
  refine wpAnyT_ready (rs:=[13]) (by kernel_rfl) (by simp) ?_
  refine AllReadyT.late rfl (by decide) (fun K hK=>?_) AllReadyT.nil
  go_simp
  refine hK.out _ _ HS8.out (fun hHeld4=>?_)
  clear hK K
  try simp only [Act.put,zA,zB,zC]
  refine wpAnyT_ready (rs:=[14]) (by kernel_rfl) (by simp) ?_
  refine AllReadyT.late rfl (by decide) (fun K hK=>?_) AllReadyT.nil
  go_simp
  refine hK.out _ _ HS9.out (fun hHeld5=>?_)
  clear hK K
  try simp only [Act.put,zA,zB,zC]
  refine wpAnyT_done (by kernel_rfl) ?_ _
  clear hHeld4 hHeld5 s0 s1 s2 h88
  have HLF:=Lib.hid (show ∀ j,((putL Gc (d k)).getD j []).length≤k+1 from fun j=>by
   rw [putL_get h0c]
   unfold up
   split
   ·rw [List.length_append];exact Nat.succ_le_succ (HLC.out (Gc.length - 1))
   ·exact Nat.le_trans (HLC.out j) (Nat.le_succ k))
  generalize w8.setCell ⟨gb,go'+J,none⟩ (.slice vza (L+1) vzc)=w9 at HG9 HX9 ⊢
  have HPL:=Lib.hid (putL_len Gc (d k))
  go_wp2_with fail
  go_roundg (N - (k+1))
  case rel=>exact ⟨k+1,putL Gc (d k),_,Rc,by omega,rfl,by go_num,by rw [HPL.out];exact hck,by rw [HPL.out];exact HRL.out,HX9.out,HG9,HIc,HRc,HLF⟩
  case measure=>omega
end Go.Proofs.YtlfdfkbmollaaaaGreatDoor
