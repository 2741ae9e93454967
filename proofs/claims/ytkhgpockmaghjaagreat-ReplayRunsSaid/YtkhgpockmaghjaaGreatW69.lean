/- Contracts and laws in plain Lean for RApp: group W69. -/
import Derived.Test.YtkhgpockmaghjaaGreatW54
import Derived.Test.YtkhgpockmaghjaaGreatW50
import Derived.Test.YtkhgpockmaghjaaGreatW67
namespace Go.Proofs.YtkhgpockmaghjaaGreat
open Go.RowKit Go.Shelf
theorem fw_dir {T:Tr} (h:T.Valid) {x y:NN} (hx:T.V x) (hy:y∈T.fw x):T.Dir x y:=by
 unfold Tr.fw Tr.succ at hy
 rcases List.mem_append.1 hy with hy | hy
 ·split at hy
  ·rw [List.mem_singleton.1 hy];exact .inl ⟨rfl,rfl⟩
  ·cases hy
 ·split at hy
  ·next h0=>
   obtain ⟨k2,hpos⟩:=h0
   have hfx:FormedP T x.1 (T.kind x.1 x.2) (T.peer x.1 x.2) (T.msg x.1 x.2):=h.formed ⟨x,hx⟩
   rcases Ltr.of_from T.evs Ltr.zero (T.msg x.1 x.2).toNat with ⟨h1,_⟩ | ⟨z,_,k3,hm,h1,h2⟩
   ·have h1':(Ltr.of T T.evs).ti (T.msg x.1 x.2).toNat=Ltr.zero.ti (T.msg x.1 x.2).toNat:=h1
    rw [h1'] at hpos
    exact absurd hpos (by simp [Ltr.zero])
   ·have h1':(Ltr.of T T.evs).tp (T.msg x.1 x.2).toNat=z.1.1:=h1
    have h2':(Ltr.of T T.evs).ti (T.msg x.1 x.2).toNat=z.1.2+1:=h2
    rw [h1',h2'] at hy
    have hyz:y=z.1:=by
     rw [List.mem_singleton.1 hy]
     exact Prod.ext (by simp) (by simp)
    subst hyz
    right
    refine ⟨k3,?_⟩
    obtain ⟨s2,sm⟩:=h.sndN z.2 k3
    have hfz:FormedP T z.1.1 (T.kind z.1.1 z.1.2) (T.peer z.1.1 z.1.2) (T.msg z.1.1 z.1.2):=h.formed z
    have he:T.msg x.1 x.2=T.msg z.1.1 z.1.2:=by rcases hfx with h | h <;> rcases hfz with h' | h' <;> omega
    have:=h.uniq2 (x:=⟨x,hx⟩) (y:=⟨T.sndN z.1,Tr.sndN_V z.2⟩) k2 s2 (he.trans sm.symm)
    exact congrArg Subtype.val this
  ·cases hy
theorem Tr.NoCyc.ind2 {T:Tr} {L:List Syn} (hA:T.NoCyc L) {P:NN→Prop} (step:∀ x,T.V x→(∀ y,T.V y→y∈T.gr L x→P y)→P x):∀ x,T.V x→P x:=by
 refine fun y0 hy0=>Classical.byContradiction fun hn0=>?_
 have key:∀ n,∃ (z:NN) (S:List NN),(z :: S).Nodup∧S.length=n∧¬P z∧(∀ u,u∈z :: S→T.V u)∧∀ u,u∈S→Path (T.gr L) u z:=by
  intro n
  induction n with
  | zero => exact ⟨y0,[],by simp,rfl,hn0,by simpa using hy0,by simp⟩
  | succ n ih =>
   obtain ⟨z,S,hnd,hl,hz,hv,hp⟩:=ih
   have hvz:=hv z List.mem_cons_self
   obtain ⟨x,hx,hd,hnx⟩:∃ x,T.V x∧x∈T.gr L z∧¬P x:=Classical.byContradiction fun hc=>hz (step z hvz fun x hx hd=>Classical.byContradiction fun hnx=>hc ⟨x,hx,hd,hnx⟩)
   have hpx:∀ u,u∈z :: S→Path (T.gr L) u x:=by
    intro u hu
    rcases List.mem_cons.1 hu with e | hu
    ·subst e;exact Path.one hd
    ·exact (hp u hu).snoc hd
   refine ⟨x,z :: S,?_,by simp [hl],hnx,?_,hpx⟩
   ·refine List.nodup_cons.2 ⟨fun hm=>hA x hx (hpx x hm),hnd⟩
   ·intro u hu
    rcases List.mem_cons.1 hu with e | hu
    ·subst e;exact hx
    ·exact hv u hu
 obtain ⟨z,S,hnd,hl,_,hv,_⟩:=key T.evs.length
 have:=evs_count hnd hv
 simp at this;omega
section
variable {T:Tr} {L:List Syn} {c:Nat→Nat}
def InC (c:Nat→Nat) (x:NN):Prop:=x.2<c x.1
theorem per_iff (hL:SynOk T L):PerP L (natV c)↔∀ x y,(evI x,evI y)∈L→InC c y→InC c x:=by
 constructor
 ·intro h x y hs hy
  have h1:=h _ hs
  simp only [natV,Int.toNat_natCast] at h1
  unfold InC at hy ⊢
  omega
 ·intro h s hs hto
  obtain ⟨x,y,hx,hy,rfl⟩:=hL.nn hs
  have h1:=h x y hs
  simp only [natV,Int.toNat_natCast] at hto ⊢
  unfold InC at h1
  have:=h1 (by omega)
  omega
theorem CutOk.back (hV:T.Valid) (hc:T.CutOk c) {x y:NN} (hx:T.V x) (hd:y∈T.fw x) (hy:InC c y):InC c x:=by
 have hvy:=fw_V hV hx hd
 rcases fw_dir hV hx hd with ⟨h1,h2⟩ | ⟨k3,rfl⟩
 ·unfold InC at hy ⊢;rw [h1] at hy;omega
 ·exact hc.cl y hvy hy k3
theorem walk_bad {y:NN} (hVL:∀ {x z:NN},T.V x→z∈T.gr L x→T.V z) (hno:∀ z,Path (T.gr L) z y→∀ w,T.V w→z∈T.gr L w→InC c z→InC c w):∀ (n:Nat) (a:NN),T.V a→¬InC c a→PathN (T.gr L) n a y→∃ u,(u=a∨Path (T.gr L) a u)∧T.V u∧y∈T.gr L u∧¬InC c u
 | 0,a,ha,hna,h => ⟨a,.inl rfl,ha,h,hna⟩
 | n+1,a,ha,hna,⟨b,hb,hp⟩ => by
  obtain ⟨u,hu,h1,h2,h3⟩:=walk_bad hVL hno n b (hVL ha hb) (fun hb2=>hna (hno b ⟨n,hp⟩ a ha hb hb2)) hp
  refine ⟨u,.inr ?_,h1,h2,h3⟩
  rcases hu with rfl | hu
  ·exact Path.one hb
  ·exact Path.cons hb hu
theorem per_needed (hV:T.Valid) (hL:SynOk T L) (hA:T.NoCyc L) (hc:T.CutOk c) (hp:PerP (T.ndL L L.length) (natV c)):PerP L (natV c):=by
 have hN:SynOk T (T.ndL L L.length):=hL.mono fun s hs=>ndL_sub hs
 rw [per_iff hN] at hp
 have hVL:∀ {x z:NN},T.V x→z∈T.gr L x→T.V z:=fun hx hz=>gr_V hV hL hx hz
 -- no broken step into any event
 have main:∀ y,T.V y→∀ z,(z=y∨(T.V z∧Path (T.gr L) z y))→∀ w,T.V w→z∈T.gr L w→InC c z→InC c w:=by
  refine hA.ind fun y hy ih=>?_
  have hpred:∀ z,T.V z→Path (T.gr L) z y→∀ w,T.V w→z∈T.gr L w→InC c z→InC c w:=by
   rintro z hz ⟨n,hn⟩
   obtain ⟨q,hq,hqy,h1⟩:∃ q,T.V q∧y∈T.gr L q∧(z=q∨Path (T.gr L) z q):=by
    clear ih
    induction n generalizing z with
    | zero => exact ⟨z,hz,hn,.inl rfl⟩
    | succ n ihn =>
     obtain ⟨b,hb,hp⟩:=hn
     obtain ⟨q,h1,h2,h3⟩:=ihn b (hVL hz hb) hp
     refine ⟨q,h1,h2,.inr ?_⟩
     rcases h3 with rfl | h3
     ·exact Path.one hb
     ·exact Path.cons hb h3
   exact ih q hq hqy z (h1.imp id fun h=>⟨hz,h⟩)
  rintro z (rfl | ⟨hz,hzp⟩)
  ·-- into z itself: against the direction of the graph
   intro w hw hzw hin
   have key:∀ x,T.V x→∀ v,(v=x∨(T.V v∧Path (T.gr L) x v))→z∈T.gr L v→InC c v:=by
    refine hA.ind2 fun x hx ih2=>?_
    have hsucc:∀ v,T.V v→Path (T.gr L) x v→z∈T.gr L v→InC c v:=by
     rintro v hv ⟨n,hn⟩ hzv
     cases n with
     | zero => exact ih2 v hv hn v (.inl rfl) hzv
     | succ n =>
      obtain ⟨b,hb,hp⟩:=hn
      exact ih2 b (hVL hx hb) hb v (.inr ⟨hv,n,hp⟩) hzv
    rintro v (rfl | ⟨hv,hvp⟩) hzv
    ·refine Classical.byContradiction fun hnv=>?_
     rcases (mem_gr hL).1 hzv with hd | hs
     ·exact hnv (CutOk.back hV hc hx hd hin)
     ·obtain ⟨j,hj,hjs⟩:=List.getElem_of_mem hs
      -- the first place of this sync
      have hfirst:∃ k,L[k]?=some (evI v,evI z)∧(evI v,evI z)∉L.take k:=by
       have:∀ (M:List Syn),(evI v,evI z)∈M→∃ k,M[k]?=some (evI v,evI z)∧(evI v,evI z)∉M.take k:=by
        intro M
        induction M with
        | nil => intro h;cases h
        | cons a M ihM =>
         intro h
         by_cases e:a=(evI v,evI z)
         ·exact ⟨0,by rw [e];rfl,by simp⟩
         ·rcases List.mem_cons.1 h with h | h
          ·exact absurd h.symm e
          ·obtain ⟨k,h1,h2⟩:=ihM h
           refine ⟨k+1,h1,fun h3=>?_⟩
           rw [List.take_succ_cons] at h3
           rcases List.mem_cons.1 h3 with h3 | h3
           ·exact e h3.symm
           ·exact h2 h3
       exact this L hs
      obtain ⟨k,hk,hnk⟩:=hfirst
      have hkl:k<L.length:=(List.getElem?_eq_some_iff.1 hk).1
      by_cases hnd:T.Ndd L k
      ·exact hnv (hp v z (mem_ndL.2 ⟨k,hkl,hnd,hk⟩) hin)
      ·have h2 : z ∈ T.fw v ∨ Rch (T.gr L) ((T.gr L v).filter fun q => !decide (q = z)) z := by
         refine Classical.byContradiction fun hc2=>hnd ⟨_,hk,?_,?_,hnk⟩
         ·rw [nnOf_evI,nnOf_evI];exact fun h=>hc2 (.inl h)
         ·rw [nnOf_evI,nnOf_evI];exact fun h=>hc2 (.inr h)
       rcases h2 with hd | ⟨a,ha,hap⟩
       ·exact hnv (CutOk.back hV hc hx hd hin)
       ·obtain ⟨ha1,ha2⟩:=List.mem_filter.1 ha
        have hne:a≠z:=by simpa using ha2
        have hpz:=hap.resolve_left hne
        have hva:=hVL hx ha1
        by_cases hia:InC c a
        ·exact hnv (hpred a hva hpz v hx ha1 hia)
        ·obtain ⟨n,hn⟩:=hpz
         obtain ⟨u,hu,h1,h3,h4⟩:=walk_bad hVL (fun q hq w2 hw2 hqw hq2=>hpred q (hVL hw2 hqw) hq w2 hw2 hqw hq2) n a hva hia hn
         refine h4 (hsucc u h1 ?_ h3)
         rcases hu with rfl | hu
         ·exact Path.one ha1
         ·exact Path.cons ha1 hu
    ·exact hsucc v hv hvp hzv
   exact key w hw w (.inl rfl) hzw
  ·exact hpred z hz hzp
 rw [per_iff hL]
 intro x y hs hy
 obtain ⟨h1,h2⟩:=hL _ hs
 have hvx:T.V x:=by have:=h1.V.1;rwa [nnOf_evI] at this
 have hvy:T.V y:=by have:=h2.V.1;rwa [nnOf_evI] at this
 exact main y hvy y (.inl rfl) x hvx ((mem_gr hL).2 (.inr hs)) hy
theorem per_sub {M:List Syn} (hm:∀ s,s∈M→s∈L) {v:Nat→Int} (h:PerP L v):PerP M v:=fun s hs=>h s (hm s hs)
theorem pcut_needed (hV:T.Valid) (hL:SynOk T L) (hA:T.NoCyc L):PCut T (T.ndL L L.length) c↔PCut T L c:=
 ⟨fun h=>⟨h.cut,per_needed hV hL hA h.cut h.per⟩,fun h=>⟨h.cut,per_sub (fun _ hs=>ndL_sub hs) h.per⟩⟩
theorem NoCyc.mono {M:List Syn} (hL:SynOk T L) (hm:∀ s,s∈M→s∈L) (hA:T.NoCyc L):T.NoCyc M:=by
 intro x hx ⟨n,hn⟩
 have key:∀ n a b,PathN (T.gr M) n a b→PathN (T.gr L) n a b:=by
  intro n
  have hstep:∀ a b,b∈T.gr M a→b∈T.gr L a:=fun a b h=>(mem_gr hL).2 (((mem_gr (hL.mono hm)).1 h).imp id fun h=>hm _ h)
  induction n with
  | zero => exact fun a b h => hstep a b h
  | succ n ih => exact fun a b ⟨u,hu,hp⟩ => ⟨u,hstep a u hu,ih u b hp⟩
 exact hA x hx ⟨n,key n x x hn⟩
theorem cut_max {d:Nat→Nat} (hc:T.CutOk c) (hd:T.CutOk d):T.CutOk fun p=>max (c p) (d p):=
 ⟨fun p hp=>Nat.max_le.2 ⟨hc.le p hp,hd.le p hp⟩,fun x hx h k3=>by
  have h1:=hc.cl x hx
  have h2:=hd.cl x hx
  have h:x.2<max (c x.1) (d x.1):=h
  show (T.sndN x).2<max (c (T.sndN x).1) (d (T.sndN x).1)
  by_cases e:x.2<c x.1
  ·have:=h1 e k3;omega
  ·have:=h2 (by omega) k3;omega⟩
theorem cut_min {d:Nat→Nat} (hc:T.CutOk c) (hd:T.CutOk d):T.CutOk fun p=>min (c p) (d p):=
 ⟨fun p hp=>by have:=hc.le p hp;show min (c p) (d p)≤_;omega,fun x hx h k3=>by
  have h:x.2<min (c x.1) (d x.1):=h
  show (T.sndN x).2<min (c (T.sndN x).1) (d (T.sndN x).1)
  have h1:=hc.cl x hx (by omega) k3
  have h2:=hd.cl x hx (by omega) k3
  omega⟩
theorem pcut_max {d:Nat→Nat} (hL:SynOk T L) (hc:PCut T L c) (hd:PCut T L d):PCut T L fun p=>max (c p) (d p):=
 ⟨cut_max hc.cut hd.cut,(per_iff hL).2 fun x y hs hy=>by
  have h1:=(per_iff hL).1 hc.per x y hs
  have h2:=(per_iff hL).1 hd.per x y hs
  have hy:y.2<max (c y.1) (d y.1):=hy
  show x.2<max (c x.1) (d x.1)
  unfold InC at h1 h2
  by_cases e:y.2<c y.1
  ·have:=h1 e;omega
  ·have:=h2 (by omega);omega⟩
theorem pcut_min {d:Nat→Nat} (hL:SynOk T L) (hc:PCut T L c) (hd:PCut T L d):PCut T L fun p=>min (c p) (d p):=
 ⟨cut_min hc.cut hd.cut,(per_iff hL).2 fun x y hs hy=>by
  have h1:=(per_iff hL).1 hc.per x y hs
  have h2:=(per_iff hL).1 hd.per x y hs
  have hy:y.2<min (c y.1) (d y.1):=hy
  show x.2<min (c x.1) (d x.1)
  unfold InC at h1 h2
  have:=h1 (by omega)
  have:=h2 (by omega)
  omega⟩
theorem pcutL_row (hL:SynOk T L) (h:PCut T L c):PCutL T L (rowOf T.n c):=⟨rowOf_len _ _,h.congr hL fun _ hp=>fn_rowOf hp⟩
end
theorem filter_at {α:Type} {p:α→Bool}:∀ {l:List α} {i:Nat} {a:α},l[i]?=some a→p a=true→(l.filter p)[((l.take i).filter p).length]?=some a
 | [],_,_,h,_ => by simp at h
 | b :: l,0,a,h,hp => by
  simp at h
  subst h
  simp [hp]
 | b :: l,i+1,a,h,hp => by
  have ih:=filter_at (l:=l) (i:=i) (by simpa using h) hp
  by_cases hb:p b=true
  ·simp [hb,ih]
  ·simp [hb,ih]
theorem sub_len {α:Type}:∀ {l m:List α},l.Nodup→(∀ x,x∈l→x∈m)→l.length≤m.length
 | [],_,_,_ => Nat.zero_le _
 | a :: l,m,hn,hs => by
  obtain ⟨m1,m2,rfl⟩:=List.append_of_mem (hs a List.mem_cons_self)
  rw [List.nodup_cons] at hn
  have:=sub_len (l:=l) (m:=m1++m2) hn.2 fun x hx=>by
   have h1:=hs x (List.mem_cons_of_mem _ hx)
   rw [List.mem_append,List.mem_cons] at h1
   rcases h1 with h1 | rfl | h1
   ·exact List.mem_append_left _ h1
   ·exact absurd hx hn.1
   ·exact List.mem_append_right _ h1
  rw [List.length_append] at this
  rw [List.length_cons,List.length_append,List.length_cons];omega
theorem pw_nodup {α:Type} {r:α→α→Prop} (irr:∀ a,¬r a a) {l:List α} (h:l.Pairwise r):l.Nodup:=by
 rw [List.nodup_iff_pairwise_ne]
 exact h.imp fun {a b} hab (e:a=b)=>by subst e;exact irr _ hab
end Go.Proofs.YtkhgpockmaghjaaGreat
