/- Contracts and laws in plain Lean for RApp: group T77. -/
import Derived.Test.YtlfdfkbmollaaaaGreatDoorT76
import Derived.Test.YtlfdfkbmollaaaaGreatDoorT06
import Derived.Test.YtlfdfkbmollaaaaGreatDoorT74
import Derived.Test.YtlfdfkbmollaaaaGreatDoorT73
import Derived.Test.YtlfdfkbmollaaaaGreatDoorT07
set_option maxRecDepth 100000
namespace Go.Proofs.YtlfdfkbmollaaaaGreatDoor
open Go.RowKit Go.Shelf Go.Deep
set_option maxHeartbeats 1000000 in
theorem cloneq_any (w : World) (base : Nat) (v : Value) (l : List Int) (h : Que w base 1 v l.length (intCells l)) (h0 : 0 < l.length) (hl : l.length ≤ 1000) :
    Calls Tryz.prog 88 #[v] w fun e w'=>∃ v',e=.returned v'∧Que w' w.heap.size 1 v' l.length (intCells l)∧Ext w w':=by
 obtain ⟨j0,hj0,hy0,hy1,hy2⟩:=info_parts infoInt
 have HQ:=Lib.hid h
 have hnl:∀ (W:World) (a:Option Addr) (n c n' c':Nat),(binOp .eql 27 (.slice a n c) (.slice none n' c')).run Tryz.prog W=.ok (.bool a.isNone) W:=fun W a n c n' c'=>Lib.run_eql_slice_nil W _ _ a n c n' c' Tryz.underlying27
 rcases h.val with ⟨ao,hv,hn,_⟩ | ⟨g,off,cap,hv,_,_,hcap,hcap2,_⟩
 ·omega
 ·subst hv
  obtain ⟨n,hn⟩:∃ n,n=l.length:=⟨_,rfl⟩
  rw [←hn] at HQ hl h0 hcap ⊢
  have HN:=Lib.hid hn
  clear hn h
  go_enter Tryz.func88,Tryz.ntmps88
  go_wp2_with (at_builtin;refine wpList_append_que _ rfl _ _ 27 27 rfl (base:=w.heap.size) (e:=3) (size:=1) j0 (.int .i64 0) 8 Tryz.underlying27 hj0 hy0 hy1 hy2 rfl rfl (v:=.slice (some ⟨w.heap.size,0,none⟩) 0 0) (n:=0) (xs:=[]) ⟨rfl,.inl ⟨_,rfl,rfl,fun a e=>by cases e;exact Nat.le_refl _⟩⟩ (by simp) (.slice (some ⟨g,off,none⟩) n cap) n (intCells l) rfl ((HQ.out.ext (Ext.alloc _ _)).src Tryz.underlying27 (intCells_one _)) (by unfold maxLen;omega) (by omega) ?_;rintro v5 w5 hq5 hg5 -;have H5:=Lib.hid (And.intro hq5 hg5);clear hq5 hg5)
  go_ret
  refine ⟨_,rfl,?_,?_⟩
  ·have:=H5.out.1
   rw [Nat.zero_add,List.nil_append] at this
   exact this
  ·exact ((Below.refl _ w).alloc (Nat.le_refl _) _).grown H5.out.2 (by simp) (by intro k hk;simp [Value.ownBlock] at hk;omega)
def Own (P:Nat→Prop) (v:Value):Prop:=(∃ ao,v=.slice ao 0 0)∨∀ g,v.ownBlock=some g→P g
theorem Own.mono {P Q:Nat→Prop} {v:Value} (h:Own P v) (k:∀ g,P g→Q g):Own Q v:=h.imp id fun h g e=>k g (h g e)
theorem Own.nil (P:Nat→Prop):Own P (.slice none 0 0):=.inl ⟨none,rfl⟩
theorem Que.own_of {w:World} {base size n:Nat} {v:Value} {xs:List Value} (h:Que w base size v n xs):Own (fun g=>base≤g∧g<w.heap.size) v:=by
 rcases h.val with ⟨ao,rfl,_⟩ | ⟨g,off,cap,rfl,h1,h2,_⟩
 ·exact .inl ⟨ao,rfl⟩
 ·exact .inr fun g' e=>by cases e;exact ⟨h1,h2⟩
theorem Que.own_same {P:Nat→Prop} {w w':World} {base size n:Nat} {v:Value} {xs:List Value} (h:Que w base size v n xs) (o:Own P v) (hs:w.heap.size≤w'.heap.size) (hb:∀ g,P g→w'.heap[g]?=w.heap[g]?):Que w' base size v n xs:=by
 rcases o with ⟨ao,rfl⟩ | o
 ·refine ⟨h.len,.inl ⟨ao,rfl,?_,fun a e=>h.block _ (by subst e;rfl)⟩⟩
  rcases h.val with ⟨_,e,hn,_⟩ | ⟨_,_,_,e,_⟩
  ·exact hn
  ·cases e;rfl
 ·exact h.same' hs fun g e=>hb g (o g e)
structure RowsI (B:Nat) (J:List (List (List Int))) (RB:Nat→Nat) (EV:Nat→Nat→Value) (M:Nat→Prop) (w:World):Prop where
 row:∀ p,p<J.length→B≤RB p∧Hold w (RB p) ((List.range (J.getD p []).length).map (EV p)).toArray
 el:∀ p i,p<J.length→i<(J.getD p []).length→Que w B 1 (EV p i) ((J.getD p []).getD i []).length (intCells ((J.getD p []).getD i []))∧Own (fun g=>¬M g∧(∀ q,q<J.length→g≠RB q)∧g<w.heap.size) (EV p i)
 inj:∀ p q,p<J.length→q<J.length→RB p=RB q→p=q
 nm:∀ p,p<J.length→¬M (RB p)
theorem RowsI.start (B:Nat) (RB:Nat→Nat) (EV:Nat→Nat→Value) (M:Nat→Prop) (w:World):RowsI B [] RB EV M w:=
 ⟨fun p h=>absurd h (by simp),fun p i h=>absurd h (by simp),fun p q h=>absurd h (by simp),fun p h=>absurd h (by simp)⟩
theorem RowsI.same {B:Nat} {J:List (List (List Int))} {RB:Nat→Nat} {EV:Nat→Nat→Value} {M:Nat→Prop} {w w':World} (h:RowsI B J RB EV M w) (x:Cg M w w'):RowsI B J RB EV M w':=
 ⟨fun p hp=>⟨(h.row p hp).1,(h.row p hp).2.cg x (h.nm p hp)⟩,
  fun p i hp hi=>⟨(h.el p i hp hi).1.own_same (h.el p i hp hi).2 x.le fun g e=>x.2 g e.2.2 e.1,(h.el p i hp hi).2.mono fun _ e=>⟨e.1,e.2.1,Nat.lt_of_lt_of_le e.2.2 x.le⟩⟩,h.inj,h.nm⟩
theorem RowsI.set {B:Nat} {J:List (List (List Int))} {RB:Nat→Nat} {EV:Nat→Nat→Value} {M M':Nat→Prop} {w:World} (h:RowsI B J RB EV M w) (hM:∀ g,M' g→M g∨w.heap.size≤g):RowsI B J RB EV M' w:=
 ⟨h.row,fun p i hp hi=>⟨(h.el p i hp hi).1,(h.el p i hp hi).2.mono fun g e=>⟨fun hg=>(hM g hg).elim e.1 fun h1=>by omega,e.2⟩⟩,h.inj,fun p hp hg=>(hM _ hg).elim (h.nm p hp) fun h1=>by have:=(h.row p hp).2.lt;omega⟩
theorem getD_lt {α:Type} {l:List α} {k:Nat} {d:α} (h:k<l.length):l.getD k d=l[k]:=by
 rw [List.getD_eq_getElem?_getD,List.getElem?_eq_getElem h];rfl
theorem getD_app {α:Type} {l:List α} {x d:α} {k:Nat} (h:k<l.length):(l++[x]).getD k d=l.getD k d:=by
 rw [List.getD_eq_getElem?_getD,List.getD_eq_getElem?_getD,List.getElem?_append_left h]
theorem getD_last {α:Type} {l:List α} {x d:α}:(l++[x]).getD l.length d=x:=by simp
theorem RowsI.new {B : Nat} {J : List (List (List Int))} {RB : Nat → Nat} {EV : Nat → Nat → Value} {M : Nat → Prop} {w w' : World} (h : RowsI B J RB EV M w) {n g : Nat} (hx : Ext w w') (hg : w.heap.size ≤ g) (hB : B ≤ w.heap.size) (hh : Hold w' g (List.replicate n (Value.slice none 0 0)).toArray) (hM : ¬ M g) :
    RowsI B (J++[List.replicate n []]) (up RB J.length g) (up EV J.length (fun _=>.slice none 0 0)) M w':=by
 have h1:=h.same (hx.cg M)
 have eR:∀ p,p<J.length→up RB J.length g p=RB p:=fun p hp=>up_other _ _ (by omega)
 have eE:∀ p,p<J.length→up EV J.length (fun _=>Value.slice none 0 0) p=EV p:=fun p hp=>up_other _ _ (by omega)
 have hold:∀ p,p<J.length→RB p<w.heap.size:=fun p hp=>(h.row p hp).2.lt
 refine ⟨fun p hp=>?_,fun p i hp hi=>?_,fun p q hp hq e=>?_,fun p hp=>?_⟩
 ·rw [List.length_append] at hp;simp at hp
  by_cases e:p=J.length
  ·subst e
   rw [up_same,up_same,getD_last]
   refine ⟨by omega,?_⟩
   rw [List.length_replicate]
   have:(List.range n).map (fun _=>Value.slice none 0 0)=List.replicate n (Value.slice none 0 0):=by
    rw [List.map_const',List.length_range]
   rw [this];exact hh
  ·have hp':p<J.length:=by omega
   rw [eR p hp',eE p hp',getD_app hp'];exact h1.row p hp'
 ·rw [List.length_append] at hp;simp at hp
  by_cases e:p=J.length
  ·subst e
   rw [getD_last,List.length_replicate] at hi
   rw [up_same,getD_last]
   have:(List.replicate n ([]:List Int)).getD i []=[]:=by
    rw [getD_lt (by simpa using hi)];simp
   rw [this]
   exact ⟨Que.nil _ _ _,Own.nil _⟩
  ·have hp':p<J.length:=by omega
   rw [getD_app hp'] at hi ⊢
   rw [eE p hp']
   refine ⟨(h1.el p i hp' hi).1,(h.el p i hp' hi).2.mono fun g' e'=>⟨e'.1,fun q hq=>?_,Nat.lt_of_lt_of_le e'.2.2 hx.le⟩⟩
   rw [List.length_append] at hq;simp at hq
   by_cases eq:q=J.length
   ·subst eq;rw [up_same];have:=e'.2.2;omega
   ·rw [eR q (by omega)];exact e'.2.1 q (by omega)
 ·rw [List.length_append] at hp hq;simp at hp hq
  by_cases e1:p=J.length <;> by_cases e2:q=J.length
  ·omega
  ·subst e1;rw [up_same,eR q (by omega)] at e;have:=hold q (by omega);omega
  ·subst e2;rw [up_same,eR p (by omega)] at e;have:=hold p (by omega);omega
  ·rw [eR p (by omega),eR q (by omega)] at e;exact h.inj p q (by omega) (by omega) e
 ·rw [List.length_append] at hp;simp at hp
  by_cases e:p=J.length
  ·subst e;rw [up_same];exact hM
  ·rw [eR p (by omega)];exact h.nm p (by omega)
theorem set_getD {α:Type} {l:List α} {p q:Nat} {x d:α} (hp:p<l.length):(l.set p x).getD q d=if q=p then x else l.getD q d:=by
 rw [List.getD_eq_getElem?_getD,List.getD_eq_getElem?_getD,List.getElem?_set]
 by_cases e:q=p
 ·subst e;simp [hp]
 ·rw [if_neg (fun h=>e h.symm),if_neg e]
theorem RowsI.put {B : Nat} {J : List (List (List Int))} {RB : Nat → Nat} {EV : Nat → Nat → Value} {M : Nat → Prop} {w : World} (h : RowsI B J RB EV M w) {p i : Nat} (hp : p < J.length) (hi : i < (J.getD p []).length) {v : Value} {L : List Int} (hq : Que w B 1 v L.length (intCells L))
    (hv:Own (fun g=>¬M g∧(∀ q,q<J.length→g≠RB q)∧g<w.heap.size) v) :
    RowsI B (J.set p ((J.getD p []).set i L)) RB (up EV p (up (EV p) i v)) M (w.setCell ⟨RB p,i,none⟩ v):=by
 have hc:Cg (· = RB p) w (w.setCell ⟨RB p,i,none⟩ v):=(Cg.refl _ w).set _ _ rfl
 have hlen:(J.set p ((J.getD p []).set i L)).length=J.length:=List.length_set
 have gp:∀ q,(J.set p ((J.getD p []).set i L)).getD q []=if q=p then (J.getD p []).set i L else J.getD q []:=fun q=>set_getD hp
 have keep:∀ {u:Value} {n:Nat} {xs:List Value},Que w B 1 u n xs→Own (fun g=>¬M g∧(∀ q,q<J.length→g≠RB q)∧g<w.heap.size) u→Que (w.setCell ⟨RB p,i,none⟩ v) B 1 u n xs:=fun hu ho=>hu.own_same ho hc.le fun g e=>hc.2 g e.2.2 (e.2.1 p hp)
 have own:∀ {u:Value},Own (fun g=>¬M g∧(∀ q,q<J.length→g≠RB q)∧g<w.heap.size) u→Own (fun g=>¬M g∧(∀ q,q<(J.set p ((J.getD p []).set i L)).length→g≠RB q)∧g<(w.setCell ⟨RB p,i,none⟩ v).heap.size) u:=fun ho=>ho.mono fun _ e=>⟨e.1,fun q hq=>e.2.1 q (by rw [hlen] at hq;exact hq),Nat.lt_of_lt_of_le e.2.2 hc.le⟩
 refine ⟨fun q hq'=>?_,fun q j hq' hj=>?_,fun q q' hq1 hq2 e=>?_,fun q hq'=>?_⟩
 ·rw [hlen] at hq'
  refine ⟨(h.row q hq').1,?_⟩
  rw [gp]
  by_cases e:q=p
  ·subst e
   rw [if_pos rfl,up_same,List.length_set,←map_up]
   have:=(h.row q hq').2.set i v
   simpa using this
  ·rw [if_neg e,up_other _ _ e]
   exact (h.row q hq').2.other _ _ fun e'=>e (h.inj q p hq' hp e')
 ·rw [hlen] at hq'
  rw [gp] at hj ⊢
  by_cases e:q=p
  ·subst e
   rw [if_pos rfl] at hj ⊢
   rw [List.length_set] at hj
   rw [up_same,set_getD hi]
   by_cases e2:j=i
   ·subst e2
    rw [if_pos rfl,up_same]
    exact ⟨keep hq hv,own hv⟩
   ·rw [if_neg e2,up_other _ _ e2]
    exact ⟨keep (h.el q j hq' hj).1 (h.el q j hq' hj).2,own (h.el q j hq' hj).2⟩
  ·rw [if_neg e] at hj ⊢
   rw [up_other _ _ e]
   exact ⟨keep (h.el q j hq' hj).1 (h.el q j hq' hj).2,own (h.el q j hq' hj).2⟩
 ·rw [hlen] at hq1 hq2;exact h.inj q q' hq1 hq2 e
 ·rw [hlen] at hq';exact h.nm q hq'
theorem Que.sld {w:World} {base n:Nat} {v:Value} {xs:List Value} (h:Que w base 1 v n xs) (hn:n≤1000000):∃ s:SlD,v=s.v∧s.n=n∧s.At w∧∀ i,i<n→w.cell? ⟨s.b,s.o+i,none⟩=xs[i]?:=by
 rcases h.val with ⟨ao,hv,hn,_⟩ | ⟨g,off,cap,hv,_,h2,h3,h4,h5,_⟩
 ·exact ⟨⟨ao,0,0,0,0⟩,hv,hn.symm,⟨by simp,by simp,fun h=>absurd h (by simp),fun h=>absurd h (by simp)⟩,fun i hi=>by omega⟩
 ·exact ⟨⟨some ⟨g,off,none⟩,n,cap,g,off⟩,hv,rfl,⟨by show n≤_;omega,h3,fun _=>rfl,fun _=>h2⟩,fun i hi=>h5 i (by omega)⟩
theorem intCells_gi {l:List Int} {i:Nat} (h:i<l.length):(intCells l)[i]?=some (.int .i64 (gi l i)):=by
 unfold intCells gi
 rw [List.getElem?_map,List.getElem?_eq_getElem h,getD_lt h];rfl
theorem Que.intd {w:World} {base:Nat} {v:Value} {l:List Int} (h:Que w base 1 v l.length (intCells l)) (hn:l.length≤1000000) (ok:∀ i,i<l.length→okI (gi l i)):∃ d:IntD,v=d.s.v∧d.s.n=l.length∧d.z=gi l∧d.At w:=by
 obtain ⟨s,h1,h2,h3,h4⟩:=h.sld hn
 refine ⟨⟨s,gi l⟩,h1,h2,rfl,h3,fun i hi=>?_⟩
 have hi':i<l.length:=by rw [←h2];exact hi
 exact ⟨(h4 i hi').trans (intCells_gi hi'),ok i hi'⟩
def rowV (J:List (List (List Int))) (RB:Nat→Nat) (p:Nat):Value:=.slice (some ⟨RB p,0,none⟩) (J.getD p []).length (J.getD p []).length
theorem RowsI.mm {B : Nat} {J : List (List (List Int))} {RB : Nat → Nat} {EV : Nat → Nat → Value} {M : Nat → Prop} {w : World} (h : RowsI B J RB EV M w) (hl : ∀ p, p < J.length → (J.getD p []).length ≤ 1000000) (hl2 : ∀ p i, p < J.length → i < (J.getD p []).length → ((J.getD p []).getD i []).length ≤ 1000000) (ok : ∀ p i q, okI (gi ((J.getD p []).getD i []) q)) {p : Nat} (hp : p < J.length) :
    ∃ m:MM,rowV J RB p=m.v∧MmOk m w∧m.n=(J.getD p []).length∧(∀ i,i<(J.getD p []).length→m.rn i=((J.getD p []).getD i []).length)∧∀ i q,m.val i q=gi ((J.getD p []).getD i []) q:=by
 obtain ⟨s,hs⟩:=choose_lt (p:=fun i (s:SlD)=>EV p i=s.v∧s.n=((J.getD p []).getD i []).length∧s.At w∧∀ q,q<((J.getD p []).getD i []).length→w.cell? ⟨s.b,s.o+q,none⟩=(intCells ((J.getD p []).getD i []))[q]?) fun i hi=>(h.el p i hp hi).1.sld (hl2 p i hp hi)
 have hh:=(h.row p hp).2
 refine ⟨⟨⟨(J.getD p []).length,fun i=>(s i).n,fun i q=>gi ((J.getD p []).getD i []) q⟩,some ⟨RB p,0,none⟩,RB p,0,(J.getD p []).length,fun i=>(s i).a,fun i=>(s i).b,fun i=>(s i).o,fun i=>(s i).c⟩,rfl,⟨⟨?_,fun _=>rfl,fun _ w' x=>Nat.lt_of_lt_of_le hh.lt x.le,fun w' x k hk=>?_,fun k hk=>(hs k hk).2.2.1.hn,fun k hk h0=>(hs k hk).2.2.1.ha h0,fun k hk h0 w' x=>Nat.lt_of_lt_of_le ((hs k hk).2.2.1.hb h0) x.le,fun w' x k i hk hi=>?_⟩,fun k i hk hi=>ok p k i,Nat.le_refl _,fun k hk=>(hs k hk).2.2.1.hc⟩,rfl,fun i hi=>(hs i hi).2.1,fun i q=>rfl⟩
 ·have:=hl p hp
  show (J.getD p []).length≤_;omega
 ·have hk':k<(J.getD p []).length:=hk
  have h1:=(hh.ext x).cell0 k
  rw [List.getElem?_toArray,List.getElem?_map,List.getElem?_range hk'] at h1
  show w'.cell? ⟨RB p,0+k,none⟩=_
  rw [Nat.zero_add,h1]
  exact congrArg some (hs k hk').1
 ·have hk':k<(J.getD p []).length:=hk
  have hi':i<(s k).n:=hi
  rw [(hs k hk').2.1] at hi'
  exact x.cell (((hs k hk').2.2.2 i hi').trans (intCells_gi hi'))
theorem slc_of {B : Nat} {F L : List Int} {J : List (List (List Int))} {vf vl vj : Value} {RB : Nat → Nat} {EV : Nat → Nat → Value} {M : Nat → Prop} {w : World} (hf : Que w B 1 vf F.length (intCells F)) (hL : Que w B 1 vl L.length (intCells L)) (hj : Que w B 1 vj J.length ((List.range J.length).map (rowV J RB))) (h : RowsI B J RB EV M w)
    (nf:F.length≤1000000) (nl:L.length≤1000000) (nj:J.length≤1000000) (hl:∀ p,p<J.length→(J.getD p []).length≤1000000) (hl2:∀ p i,p<J.length→i<(J.getD p []).length→((J.getD p []).getD i []).length≤1000000) (okf:∀ i,i<F.length→okI (gi F i)) (okl:∀ i,i<L.length→okI (gi L i)) (ok:∀ p i q,okI (gi ((J.getD p []).getD i []) q)) :
    ∃ S:SlcD,Value.agg #[.bool false,vf,vl,vj]=S.val∧S.Is ⟨false,F,L,J⟩∧S.At w:=by
 obtain ⟨df,f1,f2,f3,f4⟩:=hf.intd nf okf
 obtain ⟨dl,l1,l2,l3,l4⟩:=hL.intd nl okl
 obtain ⟨s,s1,s2,s3,s4⟩:=hj.sld nj
 obtain ⟨m,hm⟩:=choose_lt (p:=fun p (m:MM)=>rowV J RB p=m.v∧MmOk m w∧m.n=(J.getD p []).length∧(∀ i,i<(J.getD p []).length→m.rn i=((J.getD p []).getD i []).length)∧∀ i q,m.val i q=gi ((J.getD p []).getD i []) q) fun p hp=>h.mm hl hl2 ok hp
 refine ⟨⟨false,df,dl,⟨s,m⟩⟩,by rw [f1,l1,s1],⟨rfl,f2,fun i _=>by rw [f3],l2,fun i _=>by rw [l3],s2,fun p hp=>(hm p hp).2.2.1,fun p i hp hi=>(hm p hp).2.2.2.1 i hi,fun p i q hp _ _=>(hm p hp).2.2.2.2 i q⟩,f4,l4,s3,fun i hi=>?_⟩
 have hi':i<J.length:=s2▸hi
 refine ⟨?_,(hm i hi').2.1⟩
 rw [s4 i hi',List.getElem?_map,List.getElem?_range hi']
 exact congrArg some (hm i hi').1
end Go.Proofs.YtlfdfkbmollaaaaGreatDoor

namespace Go.Proofs.YtlfdfkbmollaaaaGreatDoor
open Go.RowKit Go.Shelf
attribute [local go_sem] Oper.semAt_some
set_option maxHeartbeats 1000000 in
theorem tcheck_ok (w : World) (T : TM) (hT : T.At w) (hV : T.toTr.Valid) (p i : Nat) (hp : p < T.n) (hi : i < T.en p) :
    Calls Tryz.prog 105 #[T.val,.agg #[.int .i64 (p:Int),.int .i64 ((i:Int)+1)]] w fun e w'=>e=.returned (.int .i64 0)∧Ext w w':=by
 have hn:=hT.P.hn
 have hen:=hT.E.he p hp
 have HVL:=Lib.hid (fun W (x:Ext w W)=>valid_any W T (hT.ext x))
 have HV:=Lib.hid hV
 have pa:=hT.P.pa (by omega)
 have pb:=hT.P.pb (by omega)
 have p2:∀ w',Ext w w'→w'.cell? ⟨T.b,T.off+p*3+2,none⟩=some (.slice (T.ea p) (T.en p) (T.ec p)):=fun w' h=>hT.P.p2 w' h p hp
 have d1:decide ((p:Int)<0)=false:=decide_eq_false (by omega)
 have d2:decide ((T.n:Int)≤(p:Int))=false:=decide_eq_false (by omega)
 have d2':decide (T.n≤p)=false:=decide_eq_false (by omega)
 have d3:decide ((i:Int)+1<1)=false:=decide_eq_false (by omega)
 have d4:decide ((T.en p:Int)<(i:Int)+1)=false:=decide_eq_false (by omega)
 have hp':(p:Int)<(T.n:Int):=by omega
 have hv:T.val=.agg #[.slice (some ⟨T.b,T.off,none⟩) T.n T.cap]:=by
  show Value.agg #[.slice T.a _ _]=_
  rw [pa]
 rw [hv] at HVL ⊢
 clear hV hT pa hv
 go_enter Tryz.func105,Tryz.ntmps105
 go_upto_region 1 with fail
 refine boxed2 (w:=w) (G:=fun x=>Code.wp _ _ _ _ x) ?_
 intro w1 hx1 hs1 ⟨l0,c0,_,_⟩ ⟨l1,c1,_,_⟩
 have hx11:Ext w1 w1:=Ext.refl _
 clear hs1
 go_upto_region 3 with (go_at_call 34;refine (HVL.out _ hx1).mono ?_;rintro e w2 ⟨b,rfl,hb,hx2⟩;obtain rfl:b=true:=hb.2 HV.out;have hx12:=hx1.trans hx2;have hx22:Ext w2 w2:=Ext.refl _)
 clear hx11 hb
 go_quiet (fail)
 go_wp2_with fail
 go_ret
 exact ⟨rfl,hx12.drewN _⟩
set_option maxHeartbeats 1000000 in
theorem tname_any (w : World) (hW : LibB w) (T : TM) (hT : T.At w) (hV : T.toTr.Valid) (p i : Nat) (hp : p < T.n) (hi : i < T.en p) (hN : (T.name p).size ≤ 1000) (hE : T.en p ≤ 1000) :
    Calls Tryz.prog 52 #[T.val,.agg #[.int .i64 (p:Int),.int .i64 ((i:Int)+1)]] w fun e w'=>e=.returned (.tuple #[.string (bts (evN T.toTr ((p:Int),(i:Int)+1))),.int .i64 0])∧Ext w w':=by
 obtain ⟨x,hx⟩:∃ x:Int,x=(i:Int)+1:=⟨_,rfl⟩
 have HCK:=Lib.hid (fun W (z:Ext w W)=>tcheck_ok W T (hT.ext z) hV p i hp hi)
 rw [←hx] at HCK ⊢
 have hx0:0≤x:=by omega
 have hx1000:x≤1000:=by omega
 obtain ⟨d,hd⟩:∃ d,d=Lib.itoa x:=⟨_,rfl⟩
 have HIT:=Lib.hid (fun W (z:Ext w W)=>itoa_any x (by omega) (by omega) W (hW.tb.ext z))
 rw [←hd] at HIT
 have hdl:d.length≤1001:=by have:=itoa_len x hx0;rw [hd];omega
 have hTP:=hT.P
 have htn:=hTP.hn
 have hp':(p:Int)<(T.n:Int):=by omega
 have p0:∀ w',Ext w w'→w'.cell? ⟨T.b,T.off+p*3,none⟩=some (.string (T.name p)):=fun w' h=>hTP.p0 w' h p hp
 have pb:=hTP.pb (by omega)
 obtain ⟨nm,hnm⟩:∃ nm,nm=(T.name p).data.toList:=⟨_,rfl⟩
 have hnb:T.name p=bts nm:=by rw [hnm];simp [bts]
 have hnl:nm.length≤1000:=by rw [hnm];simpa using hN
 rw [hnb] at p0
 have HEV:=Lib.hid (show evN T.toTr ((p:Int),x)=nm++46 :: d from by unfold evN;rw [hd,hnm];simp only [Int.toNat_natCast])
 have hv:T.val=.agg #[.slice (some ⟨T.b,T.off,none⟩) T.n T.cap]:=by
  show Value.agg #[.slice T.a _ _]=_
  rw [hTP.pa (by omega)]
 rw [hv] at HCK ⊢
 have hz1:=bts_size nm
 have hz2:=bts_size d
 have hk1:¬9223372036854775807<nm.length+1:=by omega
 have hk2:¬9223372036854775807<nm.length+1+d.length:=by omega
 clear hx hd hnm hnb hTP hv hT hW hV hi hE hN
 go_enter Tryz.func52,Tryz.ntmps52
 go_upto_region 1 with fail
 refine boxed2 (w:=w) (G:=fun x=>Code.wp _ _ _ _ x) ?_
 intro w1 hx1 hs1 ⟨l0,c0,_,_⟩ ⟨l1,c1,_,_⟩
 have hx11:Ext w1 w1:=Ext.refl _
 clear hs1
 go_upto_region 4 with (go_at_call 105;refine (HCK.out _ hx1).mono ?_;rintro e w2 ⟨rfl,hx2⟩;have hx12:=hx1.trans hx2;have hx22:Ext w2 w2:=Ext.refl _)
 have hg0:∀ d os,Ext w (Sort.grow (redrawn w2 d) os):=fun d os=>hx12.trans (below_regrown w2 d os)
 have hg1:∀ d os,Ext w1 (Sort.grow (redrawn w2 d) os):=fun d os=>hx2.trans (below_regrown w2 d os)
 have hg2:∀ d os,Ext w2 (Sort.grow (redrawn w2 d) os):=fun d os=>below_regrown w2 d os
 refine wp_region_quiet_below (by kernel_rfl) (by kernel_rfl) ?_
 repeat (go_big_quiet_step (exact Calls.regrown_of (HIT.out _ (hg0 _ _))))
 refine wpQuiet_nil ?_
 intro _ hw'
 obtain ⟨⟨dq,osq⟩,hw''⟩:=hw'
 subst hw''
 have hxq:=hg0 dq osq
 clear hg0 hg1 hg2
 go_wp2_with fail
 go_ret2
 exact ⟨by rw [HEV.out];exact congrArg (fun z=>Ending.returned (Value.tuple #[Value.string z,.int .i64 0])) (by rw [show (⟨#[46]⟩:ByteArray)=bts [46] from rfl,bts_append,bts_append];simp),hxq⟩
set_option maxHeartbeats 1000000 in
theorem read1_any (W : World) (hW : LibB W) (g : Nat) (want s : List UInt8) (h : Hold W g #[.string (bts want)]) (hl : s.length ≤ 1000000) :
    Calls Tryz.prog 89 #[.string (bts s),.pointer (some ⟨g,0,none⟩)] W fun e W'=>e=.returned (.int .i64 (titleE s want))∧Ext W W':=by
 obtain ⟨l0,c0,f0,_⟩:=h.box
 have hww:Ext W W:=Ext.refl _
 have HT:=Lib.hid (title_any W hW s want hl)
 clear hW h
 go_enter Tryz.func89,Tryz.ntmps89
 go_wp2_with (go_at_call 90;refine HT.out.mono ?_;rintro e w2 ⟨rfl,hx2⟩)
 go_ret
 exact ⟨rfl,hx2⟩
theorem readF {w0:World} (hW:LibB w0) {g b:Nat} (hb:Apt b) {want:List UInt8} (h:Hold w0 g #[.string (bts want)]) (hg:g≠b):FstE w0 89 #[.pointer (some ⟨g,0,none⟩)] b (fun s=>titleE s want):=
 ⟨enters_of Tryz.func89 (by kernel_rfl) rfl,fun W x s hl=>read1_any W (hW.cg x fun _ e=>by subst e;exact hb) g want s (h.cg x hg) hl⟩
def cntL:List Int→List UInt8
 | [] => []
 | c :: l => 32 :: (Lib.itoa c++cntL l)
theorem cntL_app:∀ (a b:List Int),cntL (a++b)=cntL a++cntL b
 | [],_ => rfl
 | c :: a,b => by rw [List.cons_append,cntL,cntL,cntL_app a b];simp
theorem cntL_len:∀ (l:List Int),(∀ x∈l,0≤x∧x≤1000)→(cntL l).length≤l.length*1002
 | [],_ => by simp [cntL]
 | c :: l,h => by
  have h1:=cntL_len l fun x hx=>h x (by simp [hx])
  have h2:=h c (by simp)
  have h3:=itoa_len c h2.1
  rw [cntL,List.length_cons,List.length_append,List.length_cons,Nat.succ_mul];omega
def vL (v:Nat→Int) (k:Nat):List Int:=(List.range k).map v
theorem vL_succ (v:Nat→Int) (k:Nat):vL v (k+1)=vL v k++[v k]:=by simp [vL,List.range_succ]
theorem vL_len (v:Nat→Int) (k:Nat):(vL v k).length=k:=by simp [vL]
theorem vL_in {v:Nat→Int} {k:Nat} (h:∀ j,j<k→0≤v j∧v j≤1000):∀ x∈vL v k,0≤x∧x≤1000:=fun x hx=>by
 obtain ⟨j,hj,rfl⟩:=List.mem_map.1 hx
 exact h j (List.mem_range.1 hj)
set_option maxHeartbeats 1000000 in
theorem counted_any (w : World) (hW : LibB w) (word : List UInt8) (hl : word.length ≤ 100000) (n cap : Nat) (a : Option Addr) (g o : Nat) (v : Nat → Int) (hA : NumAt w n a g o v) (hn : n ≤ 100) (hv : ∀ k, k < n → 0 ≤ v k ∧ v k ≤ 1000) :
    Calls Tryz.prog 50 #[.string (bts word),.slice a n cap] w fun e w'=>e=.returned (.string (bts (word++cntL (vL v n)++[10])))∧Ext w w':=by
 have HA:=Lib.hid hA
 have HV:=Lib.hid hv
 have HT:=Lib.hid (fun W x (h0:0≤x) (h1:x≤1000) (z:Ext w W)=>itoa_any x (by omega) (by omega) W (hW.tb.ext z))
 clear hA hv hW
 go_enter Tryz.func50,Tryz.ntmps50
 go_wp2_with fail
 go_loopg [0,9] n (fun gg v0 v9 wr=>∃ k:Nat,k≤n∧gg=n - k∧v9=.int .i64 k∧v0=.string (bts (word++cntL (vL v k)))∧Ext w wr)
 case atStart=>exact ⟨0,by omega,rfl,rfl,by simp [vL,cntL],Ext.refl _⟩
 case round=>
  obtain ⟨k,hk,rfl,rfl,rfl,hxr⟩:=hrel
  obtain ⟨u,hu⟩:∃ u,u=word++cntL (vL v k):=⟨_,rfl⟩
  have hul:u.length≤300000:=by
   have h1:=cntL_len (vL v k) (vL_in fun j hj=>HV.out j (by omega))
   rw [vL_len] at h1
   have h2:k*1002≤100*1002:=Nat.mul_le_mul_right _ (by omega)
   rw [hu,List.length_append];omega
  rw [←hu]
  have hzu:=bts_size u
  by_cases hlt:k<n
  ·have hlt':(k:Int)<(n:Int):=by omega
   obtain rfl:=HA.out.pa (by omega)
   obtain ⟨x,hx⟩:∃ x,x=v k:=⟨_,rfl⟩
   have hxb:=HV.out k hlt
   rw [←hx] at hxb
   obtain ⟨d,hd⟩:∃ d,d=Lib.itoa x:=⟨_,rfl⟩
   have hdl:d.length≤1001:=by have:=itoa_len x hxb.1;rw [hd];omega
   have hzd:=bts_size d
   have hc:wr.cell? ⟨g,o+k,none⟩=some (.int .i64 x):=by rw [hx];exact hxr.cell (HA.out.c k hlt)
   have hg:g<wr.heap.size:=Nat.lt_of_lt_of_le (HA.out.pb (by omega)) hxr.le
   have HI:=Lib.hid (HT.out wr x hxb.1 hxb.2 hxr)
   rw [←hd] at HI
   have HS:=Lib.hid (show word++cntL (vL v (k+1))=u++(32 :: d) from by rw [vL_succ,cntL_app,hu,←hx];simp [cntL,hd])
   have hk1:¬9223372036854775807<1+d.length:=by omega
   have hk2:¬9223372036854775807<u.length+(1+d.length):=by omega
   clear hu hx hd
   go_wp2_with (go_at_call 104;refine HI.out.mono ?_;rintro e w2 ⟨rfl,hx2⟩)
   go_roundg (n - (k+1))
   case rel=>exact ⟨k+1,by omega,rfl,by go_num,by rw [HS.out,←bts_append];exact congrArg Value.string (congrArg (bts u ++ ·) (bts_append [32] d)),hxr.trans hx2⟩
   case measure=>omega
  ·have hlt':decide ((k:Int)<(n:Int))=false:=decide_eq_false (by omega)
   obtain rfl:k=n:=by omega
   have hk1:¬9223372036854775807<u.length+1:=by omega
   have HU:=Lib.hid hu
   clear hu
   go_wp2_with fail
   go_ret
   exact ⟨by rw [←HU.out];exact congrArg (fun z=>Ending.returned (Value.string z)) (bts_append u [10]),hxr⟩
end Go.Proofs.YtlfdfkbmollaaaaGreatDoor

namespace Go.Proofs.YtlfdfkbmollaaaaGreatDoor
open Go.RowKit Go.Shelf
attribute [local go_sem] Oper.semAt_some
theorem fail_rest (r:Rdr) (c e:Int):(r.fail c e).rest=r.rest∧(r.fail c e).line=r.line:=by
 unfold Rdr.fail;split <;> exact ⟨rfl,rfl⟩
theorem wordsGo_rest (n:Nat) (first:List UInt8→Int):∀ (ws:List (List UInt8)) (k:Nat) (col:Int) (out:List Int) (r:Rdr),(wordsGo n first ws k col out r).2.1.rest=r.rest∧(wordsGo n first ws k col out r).2.1.line=r.line
 | [],_,_,_,_ => ⟨rfl,rfl⟩
 | w :: ws,k,col,out,r => by
  by_cases h:r.e=0
  ·rw [wordsGo_step h]
   have h1:=wordsGo_rest n first ws (k+1) (col+(w.length+1)) (stepO k n out w) (stepR k n first col r w)
   have h2:(stepR k n first col r w).rest=r.rest∧(stepR k n first col r w).line=r.line:=by
    unfold stepR
    split
    ·split
     ·exact fail_rest _ _ _
     ·exact ⟨rfl,rfl⟩
    ·split
     ·exact fail_rest _ _ _
     ·split
      ·exact fail_rest _ _ _
      ·exact ⟨rfl,rfl⟩
   exact ⟨h1.1.trans h2.1,h1.2.trans h2.2⟩
  ·rw [wordsGo,if_pos h];exact ⟨rfl,rfl⟩
theorem counts_rest (r:Rdr) (line:List UInt8) (ws:List (List UInt8)) (n:Nat) (first:List UInt8→Int):(r.counts line ws n first).2.rest=r.rest∧(r.counts line ws n first).2.line=r.line:=by
 have h:=wordsGo_rest n first ws 0 1 [] r
 unfold Rdr.counts
 simp only
 split
 ·exact h
 ·show (if _ then _ else _:Rdr).rest=_∧(if _ then _ else _:Rdr).line=_
  split
  ·have h2:=fail_rest (wordsGo n first ws 0 1 [] r).2.1 (line.length+1) 3
   exact ⟨h2.1.trans h.1,h2.2.trans h.2⟩
  ·exact h
theorem next_rest (r:Rdr):r.next.2.rest.length≤r.rest.length∧r.next.1.length≤r.rest.length∧r.line≤r.next.2.line∧r.next.2.line≤r.line+1:=by
 have h:=cut_len r.rest 10
 unfold Rdr.next
 split
 ·exact ⟨Nat.le_refl _,Nat.zero_le _,by simp,by simp;omega⟩
 ·split
  ·exact ⟨Nat.le_refl _,Nat.zero_le _,by simp;omega,by simp⟩
  ·split
   ·exact ⟨Nat.le_refl _,Nat.zero_le _,by simp;omega,by simp⟩
   ·exact ⟨h.2,h.1,by simp;omega,by simp⟩
structure RdS (W:World) (b gT gR gS:Nat) (T:TM) (r:Rdr) (vf vl vj:Value) (w:World):Prop where
 h:Hold w b (rdrC r)
 ht:Hold w gT #[.slice T.a T.n T.cap]
 hr:Hold w gR #[.bool false,.slice none 0 0,.slice none 0 0,.slice none 0 0]
 hs:Hold w gS #[.bool false,vf,vl,vj]
 x:Cg (· = b) W w
theorem RdS.cg {W w w':World} {b gT gR gS:Nat} {T:TM} {r r':Rdr} {vf vl vj:Value} (h:RdS W b gT gR gS T r vf vl vj w) (h1:b<gT∧gT<gR∧gR<gS) (hh:Hold w' b (rdrC r')) (x:Cg (· = b) w w'):RdS W b gT gR gS T r' vf vl vj w':=
 ⟨hh,h.ht.cg x (by omega),h.hr.cg x (by omega),h.hs.cg x (by omega),h.x.trans x⟩
theorem RdS.ext {W w w':World} {b gT gR gS:Nat} {T:TM} {r:Rdr} {vf vl vj:Value} (h:RdS W b gT gR gS T r vf vl vj w) (x:Ext w w'):RdS W b gT gR gS T r vf vl vj w':=
 ⟨h.h.ext x,h.ht.ext x,h.hr.ext x,h.hs.ext x,h.x.trans (x.cg _)⟩
def RdPost (W:World) (b:Nat) (T:Tr) (text:List UInt8) (e:Ending) (W':World):Prop:=
 ∃ b0 a1 n1 c1 a2 n2 c2 a3 n3 c3,e=.returned (.agg #[.bool b0,.slice a1 n1 c1,.slice a2 n2 c2,.slice a3 n3 c3])∧Hold W' b (rdrC (readP T text).2)∧Cg (· = b) W W'∧((readP T text).2.e=0→∀ w',Cg (fun g=>g<W.heap.size) W' w'→∃ S:SlcD,Value.agg #[.bool b0,.slice a1 n1 c1,.slice a2 n2 c2,.slice a3 n3 c3]=S.val∧S.Is (readP T text).1∧S.At w')
theorem Que.num {w:World} {base:Nat} {v:Value} {l:List Int} (h:Que w base 1 v l.length (intCells l)) (hn:l.length≤1000000):∃ a cap g o,v=.slice a l.length cap∧NumAt w l.length a g o (gi l):=by
 rcases h.val with ⟨ao,hv,h0,_⟩ | ⟨g,off,cap,hv,_,h2,_,_,h5,_⟩
 ·exact ⟨ao,0,0,0,by rw [hv,h0],by omega,fun h=>by omega,fun h=>by omega,fun k hk=>by omega⟩
 ·exact ⟨some ⟨g,off,none⟩,cap,g,off,hv,by omega,fun _=>rfl,fun _=>h2,fun k hk=>(h5 k (by omega)).trans (intCells_gi hk)⟩
theorem bts_const (l c:List UInt8):((bts l).toList == c)=decide (l=c):=by
 rw [ByteArray.toList_eq,Bool.eq_iff_iff];simp [bts]
structure RdA (W:World) (b gT gR:Nat) (T:TM) (r:Rdr) (w:World):Prop where
 h:Hold w b (rdrC r)
 ht:Hold w gT #[.slice T.a T.n T.cap]
 hr:Hold w gR #[.bool false,.slice none 0 0,.slice none 0 0,.slice none 0 0]
 x:Cg (· = b) W w
theorem RdA.cg {W w w':World} {b gT gR:Nat} {T:TM} {r r':Rdr} (h:RdA W b gT gR T r w) (h1:b<gT∧gT<gR) (hh:Hold w' b (rdrC r')) (x:Cg (· = b) w w'):RdA W b gT gR T r' w':=
 ⟨hh,h.ht.cg x (by omega),h.hr.cg x (by omega),h.x.trans x⟩
theorem wordsGo_ok (n:Nat) (first:List UInt8→Int):∀ (ws:List (List UInt8)) (k:Nat) (col:Int) (out:List Int) (r:Rdr),(∀ x∈out,0≤x∧x≤1125899906842624)→(∀ x∈(wordsGo n first ws k col out r).1,0≤x∧x≤1125899906842624)∧(wordsGo n first ws k col out r).1.length≤out.length+ws.length
 | [],_,_,_,_,h => ⟨h,by simp [wordsGo]⟩
 | w :: ws,k,col,out,r,h => by
  by_cases he:r.e=0
  ·rw [wordsGo_step he]
   have h1:∀ x∈stepO k n out w,0≤x∧x≤1125899906842624:=fun x hx=>by
    unfold stepO at hx
    split at hx
    ·exact h x hx
    ·split at hx
     ·exact h x hx
     ·rcases List.mem_append.1 hx with hx | hx
      ·exact h x hx
      ·simp at hx;subst hx
       unfold decI
       split
       ·simp
       ·split
        ·simp
        ·constructor <;> simp only <;> omega
   have h2:(stepO k n out w).length≤out.length+1:=by
    unfold stepO;split
    ·omega
    ·split
     ·omega
     ·simp
   have h3:=wordsGo_ok n first ws (k+1) (col+(w.length+1)) (stepO k n out w) (stepR k n first col r w) h1
   exact ⟨h3.1,by rw [List.length_cons];omega⟩
  ·rw [wordsGo,if_pos he];exact ⟨fun x hx=>by simp at hx,by simp⟩
theorem counts_ok (r:Rdr) (line:List UInt8) (ws:List (List UInt8)) (n:Nat) (first:List UInt8→Int):(∀ x∈(r.counts line ws n first).1,0≤x∧x≤1125899906842624)∧(r.counts line ws n first).1.length≤ws.length:=by
 have h:=wordsGo_ok n first ws 0 1 [] r (by simp)
 unfold Rdr.counts
 simp only
 split
 ·exact ⟨fun x hx=>by simp at hx,by simp⟩
 ·exact ⟨h.1,by have:=h.2;simpa using this⟩
theorem read_results (tmps : Array Value) (W : World) (b : Nat) (x0 x1 x2 x3 : Value) (t4 : tmps[4]? = some (.pointer (some ⟨b, 0, none⟩))) (h : Hold W b #[x0, x1, x2, x3]) :
    (results Tryz.f35 tmps).run Tryz.prog W=.ok (.agg #[x0,x1,x2,x3]) W:=by
 have c0:W.cell? ⟨b,0,none⟩=some x0:=h.cell0 0
 have c1:W.cell? ⟨b,1,none⟩=some x1:=h.cell0 1
 have c2:W.cell? ⟨b,2,none⟩=some x2:=h.cell0 2
 have c3:W.cell? ⟨b,3,none⟩=some x3:=h.cell0 3
 simp [results,go_sem,t4,c0,c1,c2,c3]
theorem slc_empty (w:World):∃ S:SlcD,Value.agg #[.bool true,.slice none 0 0,.slice none 0 0,.slice none 0 0]=S.val∧S.Is ⟨true,[],[],[]⟩∧S.At w:=
 ⟨⟨true,⟨⟨none,0,0,0,0⟩,fun _=>0⟩,⟨⟨none,0,0,0,0⟩,fun _=>0⟩,⟨⟨none,0,0,0,0⟩,fun _=>default⟩⟩,rfl,
  ⟨rfl,rfl,fun i h=>absurd h (by simp),rfl,fun i h=>absurd h (by simp),rfl,fun p h=>absurd h (by simp),fun p i h=>absurd h (by simp),fun p i q h=>absurd h (by simp)⟩,
  ⟨⟨⟨by simp,by simp,fun h=>absurd h (by simp),fun h=>absurd h (by simp)⟩,fun i h=>absurd h (by simp)⟩,⟨⟨by simp,by simp,fun h=>absurd h (by simp),fun h=>absurd h (by simp)⟩,fun i h=>absurd h (by simp)⟩,⟨⟨by simp,by simp,fun h=>absurd h (by simp),fun h=>absurd h (by simp)⟩,fun i h=>absurd h (by simp)⟩⟩⟩
theorem Cg.setF {S:Nat→Prop} {w W:World} (h:Cg S w W) (p:Addr) (v:Value) (hp:w.heap.size≤p.block):Cg S w (W.setCell p v):=
 ⟨h.1.setCell (Nat.zero_le _) v,fun g hg hn=>(Below.heap_setCell _ _ _ _ (fun e=>by omega)).trans (h.2 g hg hn)⟩
theorem Hold.put4 {w:World} {g:Nat} {u0 u1 u2 u3:Value} (h:Hold w g #[u0,u1,u2,u3]) (x0 x1 x2 x3:Value):Hold ((((w.setCell ⟨g,0,none⟩ x0).setCell ⟨g,1,none⟩ x1).setCell ⟨g,2,none⟩ x2).setCell ⟨g,3,none⟩ x3) g #[x0,x1,x2,x3]:=(((h.set 0 x0).set 1 x1).set 2 x2).set 3 x3
theorem Hold.oth4 {w:World} {g b:Nat} {c:Array Value} (h:Hold w b c) (hb:b≠g) (x0 x1 x2 x3:Value):Hold ((((w.setCell ⟨g,0,none⟩ x0).setCell ⟨g,1,none⟩ x1).setCell ⟨g,2,none⟩ x2).setCell ⟨g,3,none⟩ x3) b c:=(((h.other ⟨g,0,none⟩ x0 hb).other ⟨g,1,none⟩ x1 hb).other ⟨g,2,none⟩ x2 hb).other ⟨g,3,none⟩ x3 hb
theorem Cg.put4 {S:Nat→Prop} {W w:World} {g:Nat} (h:Cg S W w) (hg:W.heap.size≤g) (x0 x1 x2 x3:Value):Cg S W ((((w.setCell ⟨g,0,none⟩ x0).setCell ⟨g,1,none⟩ x1).setCell ⟨g,2,none⟩ x2).setCell ⟨g,3,none⟩ x3):=(((h.setF ⟨g,0,none⟩ x0 hg).setF ⟨g,1,none⟩ x1 hg).setF ⟨g,2,none⟩ x2 hg).setF ⟨g,3,none⟩ x3 hg
theorem Ext.put4 {W w:World} {g:Nat} (h:Ext W w) (hg:W.heap.size≤g) (x0 x1 x2 x3:Value):Ext W ((((w.setCell ⟨g,0,none⟩ x0).setCell ⟨g,1,none⟩ x1).setCell ⟨g,2,none⟩ x2).setCell ⟨g,3,none⟩ x3):=(((h.setCell (p:=⟨g,0,none⟩) hg x0).setCell (p:=⟨g,1,none⟩) hg x1).setCell (p:=⟨g,2,none⟩) hg x2).setCell (p:=⟨g,3,none⟩) hg x3
theorem bb_not {bb b7:Bool} {e P:Prop} (h1:bb=true↔e∧¬P) (h2:e) (h3:b7=true↔P):bb = !b7:=by
 cases b7 <;> cases bb <;> simp_all
theorem bb_no {bb:Bool} {e P:Prop} (h1:bb=true↔e∧¬P) (h2:¬e):bb=false:=by
 cases bb <;> simp_all
theorem Que.num2 {w:World} {base cap:Nat} {a:Option Addr} {l:List Int} (h:Que w base 1 (.slice a l.length cap) l.length (intCells l)) (hn:l.length≤1000000):∃ g o,NumAt w l.length a g o (gi l):=by
 obtain ⟨a',cap',g,o,e,h1⟩:=h.num hn
 cases e
 exact ⟨g,o,h1⟩
theorem RdS.put2 {W w:World} {b gT gR gS:Nat} {T:TM} {r:Rdr} {vf vl vj:Value} (h:RdS W b gT gR gS T r vf vl vj w) (h1:b<gT∧gT<gR∧gR<gS) (h2:W.heap.size≤gS) (v:Value):RdS W b gT gR gS T r vf v vj (w.setCell ⟨gS,2,none⟩ v):=
 ⟨h.h.other _ _ (by show b≠gS;omega),h.ht.other _ _ (by show gT≠gS;omega),h.hr.other _ _ (by show gR≠gS;omega),h.hs.set 2 v,h.x.setF _ _ h2⟩
theorem Que.off {w:World} {base size n x:Nat} {v:Value} {xs:List Value} (h:Que w base size v n xs) (hx:w.heap.size≤x∨x<base):Own (·≠x) v:=h.own_of.mono fun g e=>by omega
theorem Que.other {w:World} {base size n:Nat} {v:Value} {xs:List Value} (h:Que w base size v n xs) (p:Addr) (u:Value) (hp:Own (·≠p.block) v):Que (w.setCell p u) base size v n xs:=
 h.own_same hp (by simp) fun g e=>Below.heap_setCell _ _ _ _ e
theorem next_e {r:Rdr} (h:r.next.2.e=0):r.e=0:=by
 unfold Rdr.next at h
 split at h
 ·exact h
 ·rename_i h1;simpa using h1
theorem cutE_e {T:Tr} {c:List Int × Rdr} (h:(cutE T c).e=0):c.2.e=0∧T.IsCut c.1.length (gi c.1):=by
 unfold cutE at h
 by_cases h1:c.2.e=0∧¬T.IsCut c.1.length (gi c.1)
 ·rw [if_pos h1] at h
  unfold Rdr.fail at h
  rw [if_pos h1.1] at h
  exact absurd h (by show ¬(18:Int)=0;decide)
 ·rw [if_neg h1] at h
  exact ⟨h,Classical.byContradiction fun h2=>h1 ⟨h,h2⟩⟩
theorem cutE2_e {T:Tr} {f:List Int} {c:List Int × Rdr} (h:(cutE2 T f c).e=0):c.2.e=0∧T.IsCut c.1.length (gi c.1)∧LeqL f.length c.1.length (gi f) (gi c.1):=by
 unfold cutE2 at h
 by_cases h1:c.2.e=0∧(¬T.IsCut c.1.length (gi c.1)∨¬LeqL f.length c.1.length (gi f) (gi c.1))
 ·rw [if_pos h1] at h
  unfold Rdr.fail at h
  rw [if_pos h1.1] at h
  exact absurd h (by show ¬(18:Int)=0;decide)
 ·rw [if_neg h1] at h
  exact ⟨h,Classical.byContradiction fun h2=>h1 ⟨h,.inl h2⟩,Classical.byContradiction fun h2=>h1 ⟨h,.inr h2⟩⟩
theorem bb_one {bb:Bool} {e P Q:Prop} (h1:bb=true↔e∧(¬P∨¬Q)) (h2:e) (h3:¬P):bb=true:=h1.2 ⟨h2,.inl h3⟩
theorem bb_two {bb b8:Bool} {e P Q:Prop} (h1:bb=true↔e∧(¬P∨¬Q)) (h2:e) (h3:P) (h4:b8=true↔Q):bb = !b8:=by
 cases b8 <;> cases bb <;> simp_all
theorem bb_non {bb:Bool} {e P:Prop} (h1:bb=true↔e∧P) (h2:¬e):bb=false:=by
 cases bb <;> simp_all
theorem RdA.slc {W w:World} {b gT gR:Nat} {T:TM} {r:Rdr} (h:RdA W b gT gR T r w) (x1 x2 x3:Value) {t:TypeId}:RdS W b gT gR w.heap.size T r x1 x2 x3 (w.alloc (.cells #[.bool false,x1,x2,x3] t))∧Ext w (w.alloc (.cells #[.bool false,x1,x2,x3] t)):=by
 have hx:Ext w (w.alloc (.cells #[.bool false,x1,x2,x3] t)):=(Ext.refl w).alloc' _
 exact ⟨⟨h.h.ext hx,h.ht.ext hx,h.hr.ext hx,Hold.new _ _ _,h.x.trans (hx.cg _)⟩,hx⟩
theorem infoScR:(Tryz.prog.info? 27).map (fun i=>(i.zero,i.size,i.bytes))=some (some (.slice none 0 0),1,24):=by kernel_rfl
theorem infoScJ:(Tryz.prog.info? 64).map (fun i=>(i.zero,i.size,i.bytes))=some (some (.slice none 0 0),1,24):=by kernel_rfl
theorem made_hold {w:World} {base g n:Nat} {e:TypeId} (h:w.ownsRow base e 1 (.slice (some ⟨g,0,none⟩) n n) n (madeCells (Value.slice none 0 0).cells (n*1)).toList):Hold w g (List.replicate n (Value.slice none 0 0)).toArray:=by
 obtain ⟨h1,⟨hv,_⟩ | ⟨g',cap,cur,hv,hg,hh,hc,hm,hs,ht⟩⟩:=h
 ·cases hv
 ·simp only [Value.slice.injEq,Option.some.injEq,Addr.mk.injEq] at hv
  obtain ⟨⟨rfl,_⟩,_,rfl⟩:=hv
  have hz:(Value.slice none 0 0).cells=#[.slice none 0 0]:=rfl
  rw [hz,toList_madeCells_one] at ht
  have hl:cur.toList.length≤n*1:=by
   have:cur.size=n*1:=hs
   rw [Array.length_toList,this];exact Nat.le_refl _
  rw [List.take_of_length_le hl,Nat.mul_one] at ht
  have:cur=(List.replicate n (Value.slice none 0 0)).toArray:=by rw [←ht]
  rw [←this]
  exact ⟨_,hh⟩
def rowF (T:Tr) (F:List Int) (p i:Nat):List (List Int):=(List.range (T.en p)).map fun j=>if j<i then F else []
theorem rowF_len (T:Tr) (F:List Int) (p i:Nat):(rowF T F p i).length=T.en p:=by simp [rowF]
theorem rowF_zero (T:Tr) (F:List Int) (p:Nat):rowF T F p 0=List.replicate (T.en p) []:=by
 unfold rowF
 rw [show (fun j=>if j<0 then F else ([]:List Int))=fun _=>[] from funext fun j=>if_neg (by omega),List.map_const',List.length_range]
theorem rowF_set {T:Tr} {F:List Int} {p i:Nat}:(rowF T F p i).set i F=rowF T F p (i+1):=by
 unfold rowF
 rw [map_up]
 refine List.map_congr_left fun j hj=>?_
 by_cases e:j=i
 ·subst e;rw [up_same,if_pos (by omega)]
 ·rw [up_other _ _ e]
  by_cases h:j<i
  ·rw [if_pos h,if_pos (by omega)]
  ·rw [if_neg h,if_neg (by omega)]
def J0k (T:Tr) (F:List Int) (k:Nat):List (List (List Int)):=(List.range k).map fun p=>rowF T F p (gi F p).toNat
theorem J0k_len (T:Tr) (F:List Int) (k:Nat):(J0k T F k).length=k:=by simp [J0k]
theorem J0k_succ (T:Tr) (F:List Int) (k:Nat):J0k T F (k+1)=J0k T F k++[rowF T F k (gi F k).toNat]:=by simp [J0k,List.range_succ]
theorem J0k_get {T:Tr} {F:List Int} {k p:Nat} (h:p<k):(J0k T F k).getD p []=rowF T F p (gi F p).toNat:=by
 unfold J0k
 rw [getD_lt (by simpa using h)];simp
theorem set_last {α:Type} {l:List α} {x y:α} {k:Nat} (hk:k=l.length):(l++[x]).set k y=l++[y]:=by
 subst hk;rw [List.set_append_right _ _ (Nat.le_refl _),Nat.sub_self];rfl
structure RdB (W wf:World) (b gT gR gS:Nat) (T:TM) (r:Rdr) (vf vl vj:Value) (J:List (List (List Int))) (k:Nat) (RB:Nat→Nat) (EV:Nat→Nat→Value) (w:World):Prop where
 s:RdS W b gT gR gS T r vf vl vj w
 y:Cg (fun g=>g=b∨g=gS) wf w
 j:Que w wf.heap.size 1 vj k ((List.range k).map (rowV J RB))
 jl:∀ g,vj.ownBlock=some g→g<w.heap.size
 rows:RowsI wf.heap.size J RB EV (fun g=>g<wf.heap.size∨vj.ownBlock=some g) w
section
variable {W wf w w':World} {b gT gR gS:Nat} {T:TM} {r r':Rdr} {vf vl vj:Value} {J:List (List (List Int))} {k:Nat} {RB:Nat→Nat} {EV:Nat→Nat→Value}
theorem RdB.ext (h:RdB W wf b gT gR gS T r vf vl vj J k RB EV w) (x:Ext w w'):RdB W wf b gT gR gS T r vf vl vj J k RB EV w':=
 ⟨h.s.ext x,h.y.trans (x.cg _),h.j.ext x,fun g e=>Nat.lt_of_lt_of_le (h.jl g e) x.le,h.rows.same (x.cg _)⟩
theorem RdB.rdr (h:RdB W wf b gT gR gS T r vf vl vj J k RB EV w) (h1:b<gT∧gT<gR∧gR<gS) (hb:b<wf.heap.size) (hh:Hold w' b (rdrC r')) (x:Cg (· = b) w w'):RdB W wf b gT gR gS T r' vf vl vj J k RB EV w':=
 have hc:Cg (fun g=>g=b∨g=gS) w w':=⟨x.1,fun g hg hn=>x.2 g hg fun e=>hn (.inl e)⟩
 have hm:Cg (fun g=>g<wf.heap.size∨vj.ownBlock=some g) w w':=⟨x.1,fun g hg hn=>x.2 g hg fun e=>hn (.inl (by omega))⟩
 ⟨h.s.cg h1 hh x,h.y.trans hc,h.j.keepB x hb,fun g e=>Nat.lt_of_lt_of_le (h.jl g e) x.le,h.rows.same hm⟩
theorem RdB.new (h : RdB W wf b gT gR gS T r vf vl vj J k RB EV w) (x : Ext w w') {n g : Nat} (hg : w.heap.size ≤ g) (hh : Hold w' g (List.replicate n (Value.slice none 0 0)).toArray) (hk : k = J.length) :
    RdB W wf b gT gR gS T r vf vl vj (J++[List.replicate n []]) k (up RB J.length g) (up EV J.length (fun _=>.slice none 0 0)) w':=by
 have h0:=h.y.le
 refine ⟨h.s.ext x,h.y.trans (x.cg _),?_,fun g e=>Nat.lt_of_lt_of_le (h.jl g e) x.le,h.rows.new x hg h0 hh ?_⟩
 ·have:=h.j.ext x
  rw [show (List.range k).map (rowV (J++[List.replicate n []]) (up RB J.length g))=(List.range k).map (rowV J RB) from List.map_congr_left fun p hp=>by
   have hp':p<J.length:=by rw [←hk];exact List.mem_range.1 hp
   unfold rowV
   rw [up_other _ _ (by omega),getD_app hp']]
  exact this
 ·rintro (h1 | h1)
  ·omega
  ·have:=h.jl g h1;omega
theorem RdB.put {u : World} (h0 : RdB W wf b gT gR gS T r' vf vl vj J k RB EV u) (h : RdB W wf b gT gR gS T r vf vl vj J k RB EV w) (hgS : W.heap.size ≤ gS) (h1 : b < gT ∧ gT < gR ∧ gR < gS) (hS : gS < wf.heap.size) {p i : Nat} (hp : p < J.length) (hi : i < (J.getD p []).length) {v : Value} {L : List Int} (hq : Que w u.heap.size 1 v L.length (intCells L)) :
    RdB W wf b gT gR gS T r vf vl vj (J.set p ((J.getD p []).set i L)) k RB (up EV p (up (EV p) i v)) (w.setCell ⟨RB p,i,none⟩ v):=by
 have hB:=(h.rows.row p hp).1
 have hu:=h0.y.le
 have hRB:∀ q,q<J.length→RB q<u.heap.size:=fun q hq=>(h0.rows.row q hq).2.lt
 have hgW:W.heap.size≤RB p:=by omega
 have hcy:Cg (fun g=>g=b∨g=gS) wf (w.setCell ⟨RB p,i,none⟩ v):=h.y.setF _ _ hB
 refine ⟨⟨h.s.h.other _ _ (by show b≠RB p;omega),h.s.ht.other _ _ (by show gT≠RB p;omega),h.s.hr.other _ _ (by show gR≠RB p;omega),h.s.hs.other _ _ (by show gS≠RB p;omega),h.s.x.setF _ _ hgW⟩,hcy,?_,fun g e=>by have:=h.jl g e;simpa using this,?_⟩
 ·have:=h.j.other ⟨RB p,i,none⟩ v (.inr fun g e e2=>h.rows.nm p hp (.inr (by rw [e,e2])))
  rw [show (List.range k).map (rowV (J.set p ((J.getD p []).set i L)) RB)=(List.range k).map (rowV J RB) from List.map_congr_left fun q _=>by
   unfold rowV
   rw [set_getD hp]
   by_cases e:q=p
   ·subst e;rw [if_pos rfl,List.length_set]
   ·rw [if_neg e]]
  exact this
 ·refine h.rows.put hp hi (hq.mono hu) (hq.own_of.mono fun g e=>⟨?_,fun q hq'=>by have:=hRB q hq';omega,e.2⟩)
  rintro (h2 | h2)
  ·omega
  ·have:=h0.jl g h2;omega
theorem RdB.push {wa : World} {t : TypeId} (h : RdB W wf b gT gR gS T r vf vl vj J k RB EV w) (hgS : W.heap.size ≤ gS) (h1 : b < gT ∧ gT < gR ∧ gR < gS) (hS : gS < wf.heap.size) {vj' : Value} (ha : wa = w.alloc (.cells #[rowV J RB k] t))
    (hq:Que w' wf.heap.size 1 vj' (k+1) ((List.range k).map (rowV J RB)++[rowV J RB k])) (hg:wa.grownBy w' vj.ownBlock) (ho:vj'.ownBlock=vj.ownBlock∨vj'.ownBlock=some wa.heap.size) :
    RdB W wf b gT gR gS T r vf vl vj' J (k+1) RB EV (w'.setCell ⟨gS,3,none⟩ vj'):=by
 have hx:Ext w wa:=by rw [ha];exact (Ext.refl w).alloc' _
 have hB:=h.y.le
 have hvb:∀ g,vj.ownBlock=some g→wf.heap.size≤g:=fun g e=>h.j.block g e
 have hne:∀ x,x<wf.heap.size→vj.ownBlock≠some x:=fun x hx e=>by have:=hvb x e;omega
 have hbw:=h.s.h.lt
 have hrl:=hx.le
 have hWw:=h.s.x.le
 have hgSw:=h.s.hs.lt
 have hM:Cg (fun g=>g<wf.heap.size∨vj.ownBlock=some g) w (w'.setCell ⟨gS,3,none⟩ vj'):=(((Ext.cg hx _).grown hg fun g e=>.inl (.inr e)).set ⟨gS,3,none⟩ vj' (.inl hS))
 have hlt':∀ g,vj'.ownBlock=some g→g<w'.heap.size:=fun g e=>by
  rcases hq.own_of with ⟨ao,e'⟩ | ho'
  ·subst e'
   have:=hq.len
   rcases hq.val with ⟨_,_,hn,_⟩ | ⟨_,_,_,e'',_⟩
   ·omega
   ·cases e''
  ·exact (ho' g e).2
 refine ⟨⟨((h.s.h.ext hx).grownG hg (hne b (by omega))).other _ _ (by show b≠gS;omega),((h.s.ht.ext hx).grownG hg (hne gT (by omega))).other _ _ (by show gT≠gS;omega),((h.s.hr.ext hx).grownG hg (hne gR (by omega))).other _ _ (by show gR≠gS;omega),((h.s.hs.ext hx).grownG hg (hne gS hS)).set 3 vj',((h.s.x.trans (hx.cg _)).grown hg fun g e=>.inr (by have:=hvb g e;have:=hS;omega)).setF _ _ hgS⟩,?_,?_,fun g e=>by have:=hlt' g e;simpa using this,?_⟩
 ·exact (((h.y.trans (hx.cg _)).grown hg fun g e=>.inr (hvb g e)).set ⟨gS,3,none⟩ vj' (.inr rfl))
 ·rw [List.range_succ,List.map_append]
  exact hq.other _ _ (.inr fun g e e2=>by have:=hq.block g e;show False;have e3:g=gS:=e2;omega)
 ·have r1 := h.rows.set (M' := fun g => g < wf.heap.size ∨ vj.ownBlock = some g ∨ vj'.ownBlock = some g) fun g e => by
    rcases e with e | e | e
    ·exact .inl (.inl e)
    ·exact .inl (.inr e)
    ·rcases ho with e2 | e2
     ·exact .inl (.inr (by rw [←e2];exact e))
     ·rw [e] at e2;cases e2;exact .inr hrl
  have hM':Cg (fun g=>g<wf.heap.size∨vj.ownBlock=some g∨vj'.ownBlock=some g) w (w'.setCell ⟨gS,3,none⟩ vj'):=⟨hM.1,fun g hg hn=>hM.2 g hg fun e=>hn (e.imp id .inl)⟩
  exact (r1.same hM').set fun g e=>.inl (e.imp id .inr)
end
end Go.Proofs.YtlfdfkbmollaaaaGreatDoor

namespace Go.Proofs.YtlfdfkbmollaaaaGreatDoor
open Go.RowKit Go.Shelf
def Nat50 (l:List Int):Prop:=∀ x∈l,0≤x∧x≤1125899906842624
theorem Nat50.nil:Nat50 []:=fun x h=>(by cases h)
theorem Nat50.gi {l:List Int} (h:Nat50 l) (q:Nat):0≤gi l q∧gi l q≤1125899906842624:=by
 unfold Go.Proofs.YtlfdfkbmollaaaaGreatDoor.gi
 by_cases hq:q<l.length
 ·rw [getD_lt hq];exact h _ (List.getElem_mem hq)
 ·rw [List.getD_eq_getElem?_getD,List.getElem?_eq_none (by omega)]
  exact ⟨Int.le_refl _,by decide⟩
theorem Nat50.ok {l:List Int} (h:Nat50 l) (q:Nat):okI (Go.Proofs.YtlfdfkbmollaaaaGreatDoor.gi l q):=by
 have h1:=h.gi q
 unfold okI
 omega
structure JOk (T:Tr) (J:List (List (List Int))):Prop where
 len:J.length=T.n
 row:∀ p,p<T.n→(J.getD p []).length=T.en p
 el:∀ p i,((J.getD p []).getD i []).length≤1000000∧Nat50 ((J.getD p []).getD i [])
theorem JOk.start {T:Tr} {F:List Int} (hF:F.length≤1000000) (h:Nat50 F):JOk T (J0k T F T.n):=by
 refine ⟨J0k_len _ _ _,fun p hp=>by rw [J0k_get hp,rowF_len],fun p i=>?_⟩
 by_cases hp:p<T.n
 ·rw [J0k_get hp]
  by_cases hi:i<(rowF T F p (gi F p).toNat).length
  ·have e:(rowF T F p (gi F p).toNat)[i]=if i<(gi F p).toNat then F else []:=by simp [rowF]
   rw [getD_lt hi,e]
   split
   ·exact ⟨hF,h⟩
   ·exact ⟨by simp,Nat50.nil⟩
  ·rw [List.getD_eq_getElem?_getD,List.getElem?_eq_none (by omega)];exact ⟨by simp,Nat50.nil⟩
 ·have : (J0k T F T.n).getD p [] = [] := by
    rw [List.getD_eq_getElem?_getD,List.getElem?_eq_none (by rw [J0k_len];omega)];rfl
  rw [this];exact ⟨by simp,Nat50.nil⟩
theorem JOk.put {T:Tr} {J:List (List (List Int))} (h:JOk T J) {p i:Nat} (hp:p<T.n) (hi:i<T.en p) {v:List Int} (hv:v.length≤1000000) (hv2:Nat50 v):JOk T (J.set p ((J.getD p []).set i v)):=by
 have hpl:p<J.length:=by rw [h.len];exact hp
 refine ⟨by rw [List.length_set];exact h.len,fun q hq=>?_,fun q j=>?_⟩
 ·rw [set_getD hpl]
  split
  ·next e=>subst e;rw [List.length_set];exact h.row q hq
  ·exact h.row q hq
 ·rw [set_getD hpl]
  split
  ·rw [set_getD (by rw [h.row p hp];exact hi)]
   split
   ·exact ⟨hv,hv2⟩
   ·exact h.el p j
  ·exact h.el q j
theorem setJ_ev (J:List (List (List Int))) (p i:Nat) (v:List Int):setJ J ((p:Int),(i:Int)+1) v=J.set p ((J.getD p []).set i v):=by
 unfold setJ
 simp only [Int.toNat_natCast,show ((i:Int)+1).toNat - 1=i from by omega]
theorem own_at {u v:Nat→Int} {n k:Nat} (h0:∀ p,p<n→0≤u p) (hk:k<(ownL u v n).length):∃ p i:Nat,(ownL u v n)[k]=((p:Int),(i:Int)+1)∧p<n∧((i:Int)+1≤v p):=by
 obtain ⟨p,j,hp,hj,e⟩:=mem_ownL.1 (List.getElem_mem hk)
 have h1:=h0 p hp
 refine ⟨p,(u p).toNat+j,?_,hp,by omega⟩
 rw [e]
 congr 1
 omega
theorem evsGo_stop {T:Tr} {l:List EvE} {k:Nat} {J:List (List (List Int))} {r:Rdr} (hk:k<l.length) (he:r.next.2.e≠0):evsGo T (l.drop k) J r=(J,r.next.2):=by
 rw [List.drop_eq_getElem_cons hk,evsGo,if_pos he]
theorem evsGo_step {T : Tr} {l : List EvE} {k : Nat} {J : List (List (List Int))} {r : Rdr} (hk : k < l.length) (he : r.next.2.e = 0) {p i : Nat} (hx : l[k] = ((p : Int), (i : Int) + 1)) :
    evsGo T (l.drop k) J r=evsGo T (l.drop (k+1)) (J.set p ((J.getD p []).set i (r.next.2.counts r.next.1 (Lib.split r.next.1 [32]) T.n (fun w=>titleE w (evN T ((p:Int),(i:Int)+1)))).1)) (r.next.2.counts r.next.1 (Lib.split r.next.1 [32]) T.n (fun w=>titleE w (evN T ((p:Int),(i:Int)+1)))).2:=by
 rw [List.drop_eq_getElem_cons hk,evsGo,if_neg (by simp [he]),hx,setJ_ev]
theorem evsGo_end {T:Tr} {l:List EvE} {J:List (List (List Int))} {r:Rdr}:evsGo T (l.drop l.length) J r=(J,r):=by
 rw [List.drop_length];rfl
theorem RowsI.lower {B B':Nat} {J:List (List (List Int))} {RB:Nat→Nat} {EV:Nat→Nat→Value} {M:Nat→Prop} {w:World} (h:RowsI B J RB EV M w) (hb:B'≤B):RowsI B' J RB EV M w:=
 ⟨fun p hp=>⟨Nat.le_trans hb (h.row p hp).1,(h.row p hp).2⟩,fun p i hp hi=>⟨(h.el p i hp hi).1.mono hb,(h.el p i hp hi).2⟩,h.inj,h.nm⟩
theorem Cg.weak {S S':Nat→Prop} {w w':World} (h:Cg S w w') (k:∀ g,S g→S' g):Cg S' w w':=⟨h.1,fun g hg hn=>h.2 g hg fun e=>hn (k g e)⟩
theorem put4_cg (w:World) (g:Nat) (x0 x1 x2 x3:Value):Cg (· = g) w ((((w.setCell ⟨g,0,none⟩ x0).setCell ⟨g,1,none⟩ x1).setCell ⟨g,2,none⟩ x2).setCell ⟨g,3,none⟩ x3):=
 ((((Cg.refl (fun x=>x=g) w).set ⟨g,0,none⟩ x0 rfl).set ⟨g,1,none⟩ x1 rfl).set ⟨g,2,none⟩ x2 rfl).set ⟨g,3,none⟩ x3 rfl
theorem Que.num3 {w:World} {base cap:Nat} {a:Option Addr} {l:List Int} (h:Que w base 1 (.slice a l.length cap) l.length (intCells l)) (hn:l.length≤1000000) (h0:0<l.length):∃ g o,a=some ⟨g,o,none⟩∧g<w.heap.size∧∀ k,k<l.length→w.cell? ⟨g,o+k,none⟩=some (.int .i64 (gi l k)):=by
 obtain ⟨g,o,h1⟩:=h.num2 hn
 exact ⟨g,o,h1.pa h0,h1.pb h0,fun k hk=>h1.c k hk⟩
theorem Que.cellsV {w:World} {base n cap:Nat} {a:Option Addr} {f:Nat→Value} (h:Que w base 1 (.slice a n cap) n ((List.range n).map f)) (h0:0<n):∃ g o,a=some ⟨g,o,none⟩∧base≤g∧g<w.heap.size∧∀ k,k<n→w.cell? ⟨g,o+k,none⟩=some (f k):=by
 rcases h.val with ⟨_,_,hz,_⟩ | ⟨g,off,cap',hv,h1,h2,_,_,h5,_⟩
 ·omega
 ·cases hv
  refine ⟨g,off,rfl,h1,h2,fun k hk=>?_⟩
  rw [h5 k (by omega),List.getElem?_map,List.getElem?_range hk];rfl
theorem Que.cellsE {w:World} {base n cap:Nat} {a:Option Addr} {l:List EvE} (h:Que w base 2 (.slice a n cap) n (evCells l)) (hl:l.length=n) (h0:0<n):∃ g o,a=some ⟨g,o,none⟩∧base≤g∧g<w.heap.size∧∀ k (hk:k<l.length),w.cell? ⟨g,o+k*2,none⟩=some (.int .i64 l[k].1)∧w.cell? ⟨g,o+k*2+1,none⟩=some (.int .i64 l[k].2):=by
 rcases h.val with ⟨_,_,hz,_⟩ | ⟨g,off,cap',hv,h1,h2,_,_,h5,_⟩
 ·omega
 ·cases hv
  refine ⟨g,off,rfl,h1,h2,fun k hk=>⟨?_,?_⟩⟩
  ·rw [h5 (k*2) (by omega),evCells_get0 l k hk]
  ·rw [Nat.add_assoc,h5 (k*2+1) (by omega),evCells_get1 l k hk]
theorem nameB16 {s:ByteArray} (h:nameB s=true):s.size≤16:=by
 unfold nameB at h
 simp only [Bool.and_eq_true,decide_eq_true_eq] at h
 exact h.1.1.2
end Go.Proofs.YtlfdfkbmollaaaaGreatDoor

namespace Go.Proofs.YtlfdfkbmollaaaaGreatDoor
theorem SlcD.Is.ok {S S':SlcD} {s:SL} {T:Tr} (h:S.Is s) (h':S'.Is s) (hO:S.Ok T):S'.Ok T:=by
 obtain ⟨hV,hO⟩:=hO
 refine ⟨hV,?_⟩
 have efn:S'.f.s.n=S.f.s.n:=h'.fn.trans h.fn.symm
 have eln:S'.l.s.n=S.l.s.n:=h'.ln.trans h.ln.symm
 have ejn:S'.j.s.n=S.j.s.n:=h'.jn.trans h.jn.symm
 have eem:S'.em=S.em:=h'.em.trans h.em.symm
 rcases hO with ⟨h1,h2,h3,h4⟩ | ⟨h1,hSh,hR,hC⟩
 ·exact .inl ⟨eem.trans h1,efn.trans h2,eln.trans h3,ejn.trans h4⟩
 have hf:=hSh.1.1
 have hl:=hSh.1.2.1
 have fn:S.f.s.n=T.n:=hf.1.2
 have ln:S.l.s.n=T.n:=hl.1.2
 have jn:S.j.s.n=T.n:=hSh.1.2.2.2
 have lf:s.f.length=T.n:=h.fn.symm.trans fn
 have ll:s.l.length=T.n:=h.ln.symm.trans ln
 have lj:s.j.length=T.n:=h.jn.symm.trans jn
 have ez:∀ p,p<T.n→S'.f.z p=S.f.z p:=fun p hp=>(h'.fz p (by omega)).trans (h.fz p (by omega)).symm
 have el:∀ p,p<T.n→S'.l.z p=S.l.z p:=fun p hp=>(h'.lz p (by omega)).trans (h.lz p (by omega)).symm
 have em:∀ p,p<T.n→(S'.j.m p).n=(S.j.m p).n:=fun p hp=>(h'.mn p (by omega)).trans (h.mn p (by omega)).symm
 have gl:∀ p,p<T.n→(s.j.getD p []).length=T.en p:=fun p hp=>(h.mn p (by omega)).symm.trans (hSh.2 p hp)
 have er:∀ p i,p<T.n→i<T.en p→(S'.j.m p).rn i=(S.j.m p).rn i:=fun p i hp hi=>(h'.rn p i (by omega) (by rw [gl p hp];exact hi)).trans (h.rn p i (by omega) (by rw [gl p hp];exact hi)).symm
 have ev:∀ p i q,p<T.n→i<T.en p→q<(S.j.m p).rn i→(S'.j.m p).val i q=(S.j.m p).val i q:=fun p i q hp hi hq=>by
  have e:=h.rn p i (by omega) (by rw [gl p hp];exact hi)
  exact (h'.vz p i q (by omega) (by rw [gl p hp];exact hi) (by omega)).trans (h.vz p i q (by omega) (by rw [gl p hp];exact hi) (by omega)).symm
 have cut:∀ p i:Nat,p<T.n→i<T.en p→(i:Int)+1≤S.l.z p→T.IsCut ((S.j.m p).rn i) ((S.j.m p).val i):=fun p i hp hi hl=>(hR p i hp hi).cut hSh hl
 refine .inr ⟨eem.trans h1,⟨⟨?_,?_,⟨?_,?_⟩,ejn.trans jn⟩,fun p hp=>(em p hp).trans (hSh.2 p hp)⟩,fun p i hp hi=>?_,fun p i hp hi=>?_⟩
 ·rw [efn];exact hf.congr ez
 ·rw [eln];exact hl.congr el
 ·rw [efn,eln];exact hSh.1.2.2.1.1
 ·intro p hp
  rw [efn,fn] at hp
  rw [ez p hp,el p hp];exact hSh.1.2.2.1.2 p (by omega)
 ·have hr:=hR p i hp hi
  unfold SlcD.Right
  rw [el p hp,ez p hp,er p i hp hi,efn,eln]
  refine ⟨fun hL=>?_,hr.2⟩
  have hc:=cut p i hp hi hL
  have hrn:(S.j.m p).rn i=T.n:=hc.1.2
  refine ⟨fun hF=>?_,fun hF=>?_⟩
  ·have h2:=(hr.1 hL).1 hF
   exact ⟨h2.1,fun q hq=>by rw [ev p i q hp hi (by omega),ez q (by omega)];exact h2.2 q hq⟩
  ·obtain ⟨_,h3,h4,h5⟩:=(hr.1 hL).2 hF
   refine ⟨hc.congr fun q hq=>ev p i q hp hi (by omega),by rw [ev p i p hp hi (by omega)];exact h3,⟨h4.1,fun q hq=>?_⟩,⟨h5.1,fun q hq=>?_⟩⟩
   ·rw [ez q (by omega),ev p i q hp hi (by omega)];exact h4.2 q hq
   ·rw [el q (by omega),ev p i q hp hi (by omega)];exact h5.2 q hq
 ·rw [el p hp] at hi
  have hie:i<T.en p:=by have:=hl.2.1 p hp;omega
  have hc:=cut p i hp hie (by omega)
  have hrn:(S.j.m p).rn i=T.n:=hc.1.2
  intro q k hq hk
  rw [er p i hp hie] at hq
  have hqT:q<T.n:=by omega
  rw [ev p i q hp hie hq] at hk
  have hke:k<T.en q:=by have:=hc.2.1 q hqT;omega
  have h2:=hC p i hp hi q k hq hk
  have hrq:(S.j.m q).rn k=T.n:=h2.1.trans hrn
  rw [er p i hp hie,er q k hqT hke]
  exact ⟨h2.1,fun r hr=>by rw [ev q k r hqT hke hr,ev p i r hp hie (by omega)];exact h2.2 r hr⟩
end Go.Proofs.YtlfdfkbmollaaaaGreatDoor

namespace Go.Proofs.YtlfdfkbmollaaaaGreatDoor
open Go.RowKit Go.Shelf
theorem EvOwn.slc {w:World} {base:Nat} {v:Value} {l:List EvE} (h:EvOwn w base v l):∃ a c,v=.slice a l.length c:=by
 obtain ⟨_,⟨hv,hn⟩ | ⟨g,cap,cur,hv,_⟩⟩:=h
 ·exact ⟨none,0,by rw [hv,hn]⟩
 ·exact ⟨_,_,hv⟩
theorem EvOwn.blk {w:World} {b n:Nat} {v:Value} {t:TypeId} {xs:List Value} (h:w.ownsRow b t 2 v n xs):∀ k,v.ownBlock=some k→b≤k:=by
 intro k hk
 obtain ⟨h1,⟨hv,hn⟩ | ⟨g,cap,cur,hv,hg,rest⟩⟩:=h
 ·subst hv;cases hk
 ·subst hv;simp [Value.ownBlock] at hk;omega
def OwnPost2 (u v:Nat→Int) (n:Nat) (w:World) (e:Ending) (w':World):Prop:=Ext w w'∧∃ a c,e=.returned (.slice a (ownL u v n).length c)∧EvOwn w' w.heap.size (.slice a (ownL u v n).length c) (ownL u v n)
set_option maxHeartbeats 2000000 in
theorem own2_any (w : World) (a1 a2 : Option Addr) (g1 o1 g2 o2 n c1 c2 : Nat) (u v : Nat → Int) (h1 : NumAt w n a1 g1 o1 u) (h2 : NumAt w n a2 g2 o2 v) (hn : n ≤ 100) (hb : ∀ p, p < n → 0 ≤ u p ∧ u p ≤ 1000 ∧ v p ≤ 1000) :
    Calls Tryz.prog 51 #[.slice a1 n c1,.slice a2 n c2] w (OwnPost2 u v n w):=by
 obtain ⟨j0,hj0,hy0,hy1,hy2⟩:=info_parts infoEv
 have HB:=Lib.hid hb
 have HLN:=Lib.hid (show ∀ k,k≤n→(ownL u v k).length≤100000 from fun k hk=>by
  have h1:=ownL_len (u:=u) (v:=v) (c:=1000) (n:=k) fun p hp=>by have:=hb p (by omega);omega
  have h2:k*1000≤100*1000:=Nat.mul_le_mul_right _ (by omega)
  omega)
 have H1:=Lib.hid h1
 have H2:=Lib.hid h2
 have hww:=Ext.refl w
 unfold OwnPost2
 clear h1 h2 hb
 go_enter Tryz.func51,Tryz.ntmps51
 go_wp2_with fail
 go_loopg [5,10] n (fun gg v5 v10 wr=>∃ k:Nat,k≤n∧gg=n - k∧v10=.int .i64 k∧Ext w wr∧EvOwn wr w.heap.size v5 (ownL u v k))
 case atStart=>exact ⟨0,by omega,rfl,rfl,Ext.refl _,EvOwn.nil _ _⟩
 case round=>
  obtain ⟨k,hk,rfl,rfl,hxr,hq⟩:=hrel
  have HQ:=Lib.hid hq
  clear hq
  by_cases hlt:k<n
  ·have hlt':(k:Int)<(n:Int):=by omega
   obtain rfl:=H1.out.pa (by omega)
   obtain rfl:=H2.out.pa (by omega)
   have pb1:∀ w',Ext w w'→g1<w'.heap.size:=fun w' x=>Nat.lt_of_lt_of_le (H1.out.pb (by omega)) x.le
   have pb2:∀ w',Ext w w'→g2<w'.heap.size:=fun w' x=>Nat.lt_of_lt_of_le (H2.out.pb (by omega)) x.le
   obtain ⟨x,hx⟩:∃ x,x=u k:=⟨_,rfl⟩
   obtain ⟨y,hy⟩:∃ y,y=v k:=⟨_,rfl⟩
   have p1:∀ w',Ext w w'→w'.cell? ⟨g1,o1+k,none⟩=some (.int .i64 x):=fun w' h=>by rw [hx];exact h.cell (H1.out.c k hlt)
   have q1:∀ w',Ext w w'→w'.cell? ⟨g2,o2+k,none⟩=some (.int .i64 y):=fun w' h=>by rw [hy];exact h.cell (H2.out.c k hlt)
   have hxb:0≤x∧x≤1000∧y≤1000:=by rw [hx,hy];exact HB.out k hlt
   obtain ⟨hx0,hx9,hy9⟩:=hxb
   have HXY:=Lib.hid (And.intro hx hy)
   have HLK:=Lib.hid (show (ownL u v k).length≤100000 from HLN.out k (by omega))
   clear hx hy
   have hxw1:IntKind.i64.wrap (x+1)=x+1:=IntWalk.i64_in _ (by omega)
   go_wp2_with fail
   go_loopg [5,7] (y - x).toNat (fun gg v5 v7 wi=>∃ m:Nat,m≤(y - x).toNat∧gg=(y - x).toNat - m∧v7=.int .i64 (x+1+(m:Int))∧Ext w wi∧EvOwn wi w.heap.size v5 (ownL u v k++ownP u k m))
   case atStart=>exact ⟨0,by omega,by omega,by first | rfl | go_num | (congr 1;omega),hxr,by simpa [ownP] using HQ.out⟩
   case round=>
    clear HQ
    obtain ⟨m,hm,rfl,rfl,hxi,hqi⟩:=hrel
    obtain ⟨a6,c6,rfl⟩:=EvOwn.slc hqi
    unfold EvOwn at hqi
    rw [List.length_append,ownP_len] at hqi ⊢
    have HQI:=Lib.hid hqi
    clear hqi
    have hlk:=HLK.out
    obtain ⟨z,hz⟩:∃ z,z=x+1+(m:Int):=⟨_,rfl⟩
    rw [←hz]
    have hz1:z≤2000∧0<z:=by omega
    obtain ⟨hz2,hz3⟩:=hz1
    obtain ⟨N,hN⟩:∃ N,N=(ownL u v k).length:=⟨_,rfl⟩
    have HN:=Lib.hid hN
    rw [←hN] at HQI hlk ⊢
    obtain ⟨M,hM⟩:∃ M,M=N+m:=⟨_,rfl⟩
    rw [←hM] at HQI ⊢
    have hM9:M≤101000:=by omega
    by_cases hli:m<(y - x).toNat
    ·have hzy:z≤y:=by omega
     have HZ:=Lib.hid (And.intro hz hM)
     clear hz hM hN hm
     go_wp2_with (at_builtin;refine wpList_append_own_at _ rfl _ _ 68 rfl w.heap.size 70 j0 (.agg #[.int .i64 0,.int .i64 0]) 2 16 Tryz.underlying68 hj0 hy0 hy1 hy2 rfl (by decide) (.slice a6 M c6) M (evCells (ownL u v k++ownP u k m)) rfl (by exact HQI.out.alloc _) ⟨wr.heap.size,0,none⟩ 1 1 [.int .i64 k,.int .i64 z] rfl rfl (by exact news_ok wr [_,_] _) (by intro u hu;simp at hu;rcases hu with rfl | rfl <;> rfl) (by unfold maxLen;omega) (by omega) (by rw [World.size_alloc];have:=hxi.le;omega) ?_;rintro v8 w8 hq8 hg8 - -;obtain ⟨a8,cp8,hv8⟩:=own_slice2 hq8;subst hv8;have H8:=Lib.hid (And.intro hq8 hg8);clear hq8 hg8)
     go_roundg ((y - x).toNat - (m+1))
     case rel=>
      have hzz:=HZ.out
      refine ⟨m+1,by omega,rfl,by first | (congr 1;omega) | (go_num;omega),(hxi.alloc' _).below.grown H8.out.2 (by rw [World.size_alloc];have:=hxi.le;omega) (fun g e=>EvOwn.blk HQI.out g e),?_⟩
      have h:=H8.out.1
      unfold EvOwn
      rw [ownP_succ,←List.append_assoc,evCells_snoc,List.length_append,List.length_append,ownP_len,show (ownL u v k).length+m+[((k:Int),u k+1+(m:Int))].length=M+1 by have:=HN.out;simp only [List.length_singleton];omega,←HXY.out.1,←hzz.1];exact h
     case measure=>omega
    ·have hme:m=(y - x).toNat:=by omega
     have hzy:¬z≤y:=by omega
     have hMN:M=(ownL u v (k+1)).length:=by unfold ownL;rw [List.length_append,ownP_len,←HXY.out.1,←HXY.out.2,←hN,←hme];exact hM
     have HQK:=Lib.hid (show EvOwn wr w.heap.size (.slice a6 M c6) (ownL u v (k+1)) from by
      unfold EvOwn
      rw [←hMN];unfold ownL;rw [←HXY.out.1,←HXY.out.2,←hme];exact HQI.out)
     clear hz hM hN hm hme hMN hlk
     go_wp2_with fail
     go_roundg (n - (k+1))
     case rel=>exact ⟨k+1,by omega,rfl,by go_num,hxi,HQK.out⟩
     case measure=>omega
  ·obtain rfl:k=n:=by omega
   obtain ⟨a6,c6,hu⟩:=EvOwn.slc HQ.out
   subst hu
   go_wp2_with fail
   go_ret
   exact ⟨hxr,a6,c6,rfl,HQ.out⟩
end Go.Proofs.YtlfdfkbmollaaaaGreatDoor
