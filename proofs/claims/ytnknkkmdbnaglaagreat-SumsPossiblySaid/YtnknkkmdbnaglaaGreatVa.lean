/- Contracts and laws in plain Lean for SPos: group Va. -/
import Derived.Test.YtnknkkmdbnaglaaGreatUp
import Derived.Test.YtnknkkmdbnaglaaGreatKa
import Derived.Test.YtnknkkmdbnaglaaGreatUq
import Derived.Test.YtnknkkmdbnaglaaGreatUv
import Derived.Test.YtnknkkmdbnaglaaGreatUy
import Derived.Test.YtnknkkmdbnaglaaGreatUf
import Derived.Test.YtnknkkmdbnaglaaGreatUt
set_option maxRecDepth 100000
namespace Go.Proofs.YtnknkkmdbnaglaaGreat
open Go.RowKit Go.Shelf
def trmCells (l:List Trm):List Value:=l.flatMap fun x=>[.int .i64 x.1,.string x.2.1,.int .i64 x.2.2]
theorem trmCells_len (l:List Trm):(trmCells l).length=l.length*3:=by
 induction l with
 | nil => rfl
 | cons x l ih => simp only [trmCells,List.flatMap_cons,List.length_append,List.length_cons,List.length_nil] at ih ⊢;omega
theorem trmCells_snoc (l:List Trm) (t:Trm):trmCells (l++[t])=trmCells l++[.int .i64 t.1,.string t.2.1,.int .i64 t.2.2]:=by simp [trmCells]
theorem trmCells_get:∀ (l:List Trm) (i:Nat) (x:Trm),l[i]?=some x→(trmCells l)[i*3]?=some (.int .i64 x.1)∧(trmCells l)[i*3+1]?=some (.string x.2.1)∧(trmCells l)[i*3+2]?=some (.int .i64 x.2.2)
 | [],i,x,h => by simp at h
 | y :: l,0,x,h => by
  simp at h
  subst h
  exact ⟨rfl,rfl,rfl⟩
 | y :: l,i+1,x,h => by
  obtain ⟨h1,h2,h3⟩:=trmCells_get l i x (by simpa using h)
  have e0:(i+1)*3=i*3+1+1+1:=by omega
  have e1:(i+1)*3+1=i*3+1+1+1+1:=by omega
  have e2:(i+1)*3+2=i*3+2+1+1+1:=by omega
  rw [e2,e1,e0]
  exact ⟨h1,h2,h3⟩
theorem infoTerm:(Tryz.prog.info? 62).map (fun i=>(i.zero,i.size,i.bytes))=some (some (.agg #[.int .i64 0,.string ⟨#[]⟩,.int .i64 0]),3,32):=by kernel_rfl
def trmOk (l:List Trm):Prop:=∀ x∈l,okI x.1∧x.2.1.size≤9223372036854775807∧okI x.2.2
abbrev TmOwn (w:World) (base:Nat) (v:Value) (l:List Trm):Prop:=Que w base 3 v l.length (trmCells l)
theorem TmOwn.tmd {w:World} {base:Nat} {v:Value} {l:List Trm} (h:TmOwn w base v l) (hn:l.length≤100000) (hk:trmOk l):∃ D:TmD,v=.slice D.s.a D.s.n D.s.c∧D.l=l∧D.At w:=by
 have hl:∀ a g off cap,(TmD.l ⟨⟨a,l.length,cap,g,off⟩,fun i=>(l.getD i (0,⟨#[]⟩,0)).1,fun i=>(l.getD i (0,⟨#[]⟩,0)).2.1,fun i=>(l.getD i (0,⟨#[]⟩,0)).2.2⟩)=l:=fun a g off cap=>by
  apply List.ext_getElem?
  intro i
  by_cases hi:i<l.length
  ·rw [TmD.get _ hi]
   simp [TmD.at,List.getD_eq_getElem?_getD,List.getElem?_eq_getElem hi]
  ·rw [List.getElem?_eq_none (by rw [TmD.len];exact Nat.le_of_not_lt hi),List.getElem?_eq_none (Nat.le_of_not_lt hi)]
 have hg:∀ i,i<l.length→l[i]?=some (l.getD i (0,⟨#[]⟩,0))∧l.getD i (0,⟨#[]⟩,0)∈l:=fun i hi=>by
  rw [List.getD_eq_getElem?_getD,List.getElem?_eq_getElem hi]
  exact ⟨rfl,List.getElem_mem hi⟩
 rcases h.val with ⟨ao,hv,h0,ha⟩ | ⟨g,off,cap,hv,h1,h2,h3,h4,h5,h6⟩
 ·refine ⟨_,?_,hl ao 0 0 0,⟨by show l.length≤_;omega,fun h=>?_,fun h=>?_,fun i hi=>?_,fun i hi=>?_,fun i hi=>?_,fun i hi=>?_,fun i hi=>?_,fun i hi=>?_⟩⟩
  ·rw [hv,h0]
  all_goals (first | (have h':0<l.length:=h;omega) | (have h':i<l.length:=hi;omega))
 ·have c : ∀ j u, (trmCells l)[j]? = some u → w.cell? ⟨g, off + j, none⟩ = some u := fun j u hu => by
    have hj:=(List.getElem?_eq_some_iff.1 hu).1
    rw [trmCells_len] at hj
    exact (h5 j hj).trans hu
  refine ⟨_,hv,hl (some ⟨g,off,none⟩) g off cap,⟨by show l.length≤_;omega,fun _=>rfl,fun _=>h2,fun i hi=>?_,fun i hi=>?_,fun i hi=>?_,fun i hi=>(hk _ (hg i hi).2).1,fun i hi=>(hk _ (hg i hi).2).2.1,fun i hi=>(hk _ (hg i hi).2).2.2⟩⟩
  ·exact c _ _ (trmCells_get l i _ (hg i hi).1).1
  ·show w.cell? ⟨g,off+i*3+1,none⟩=_
   rw [Nat.add_assoc];exact c _ _ (trmCells_get l i _ (hg i hi).1).2.1
  ·show w.cell? ⟨g,off+i*3+2,none⟩=_
   rw [Nat.add_assoc];exact c _ _ (trmCells_get l i _ (hg i hi).1).2.2
theorem TmD.At.ok {D:TmD} {w:World} (h:D.At w):trmOk D.l:=by
 intro x hx
 obtain ⟨i,hi,rfl⟩:=TmD.mem.1 hx
 exact ⟨h.o0 i hi,h.o1 i hi,h.o2 i hi⟩
theorem trm_one (a:Int) (b:ByteArray) (c:Int):∀ u∈[Value.int .i64 a,.string b,.int .i64 c],u.oneCell'=true:=by
 intro u hu
 simp at hu
 rcases hu with rfl | rfl | rfl <;> rfl
end Go.Proofs.YtnknkkmdbnaglaaGreat

namespace Go.Proofs.YtnknkkmdbnaglaaGreat
open Go.RowKit
def oppL (l:List Trm):List Trm:=l.map fun x=>(x.1,x.2.1,- x.2.2)
theorem Tr.sumAt_cons (T:Tr) (x:Trm) (l:List Trm) (c:Nat→Nat):T.sumAt (x :: l) c=x.2.2*T.st (T.tedg x).1 (T.tedg x).2.1 (c (T.tedg x).1)+T.sumAt l c:=rfl
theorem Tr.wt_cons (T:Tr) (x:Trm) (l:List Trm) (p i:Nat):T.wt (x :: l) p i=(if (T.tedg x).1=p then x.2.2*(T.st p (T.tedg x).2.1 (i+1) - T.st p (T.tedg x).2.1 i) else 0)+T.wt l p i:=rfl
theorem Tr.sumAt_opp (T:Tr) (c:Nat→Nat):∀ l:List Trm,T.sumAt (oppL l) c=- T.sumAt l c
 | [] => rfl
 | x :: l => by
  have ih:=T.sumAt_opp c l
  have e:oppL (x :: l)=(x.1,x.2.1,- x.2.2) :: oppL l:=rfl
  rw [e,Tr.sumAt_cons,Tr.sumAt_cons,ih,Int.neg_add]
  congr 1
  exact Int.neg_mul _ _
theorem Tr.wt_opp (T:Tr) (p i:Nat):∀ l:List Trm,T.wt (oppL l) p i=- T.wt l p i
 | [] => rfl
 | x :: l => by
  have ih:=T.wt_opp p i l
  have e:oppL (x :: l)=(x.1,x.2.1,- x.2.2) :: oppL l:=rfl
  have e1:(T.tedg (x.1,x.2.1,- x.2.2)).1=(T.tedg x).1:=rfl
  have e2:(T.tedg (x.1,x.2.1,- x.2.2)).2.1=(T.tedg x).2.1:=rfl
  rw [e,Tr.wt_cons,Tr.wt_cons,ih,Int.neg_add,e1,e2]
  congr 1
  split
  ·exact Int.neg_mul _ _
  ·rfl
theorem iabs_neg (x:Int):iabs (- x)=iabs x:=by unfold iabs;split <;> split <;> omega
theorem Tr.SumOk.opp {T:Tr} {l:List Trm} (h:T.SumOk l):T.SumOk (oppL l):=by
 refine ⟨h.v,by unfold oppL;rw [List.length_map];exact h.len,fun x hx=>?_,fun x hx=>?_,h.few,?_⟩
 ·obtain ⟨y,hy,rfl⟩:=List.mem_map.1 hx
  exact h.known y hy
 ·obtain ⟨y,hy,rfl⟩:=List.mem_map.1 hx
  have:=h.coef y hy
  show -1048576≤- y.2.2∧- y.2.2≤1048576
  omega
 ·have e : T.mass (oppL l) T.n 0 = T.mass l T.n 0 := by
    unfold Tr.mass
    rw [Tr.sumAt_opp,iabs_neg]
    congr 1
    congr 1
    refine isum_congr fun p hp=>isum_congr fun i hi=>?_
    rw [Tr.wt_opp,iabs_neg]
  rw [e];exact h.mass
theorem Tr.SumOk.small {T:Tr} {l:List Trm} (h:T.SumOk l) {c:Nat→Nat} (hc:∀ p,p<T.n→c p≤T.en p):-562949953421312≤T.sumAt l c∧T.sumAt l c≤562949953421312:=by
 have h1:=(Tr.wfn_ok h).part (T.inCut c) (Nat.le_refl _)
 rw [Tr.atC_wsum hc fun x hx=>Tr.inCut_iff hx,←Tr.sumAt_atC h.known hc] at h1
 exact h1
theorem trmOk_opp {l:List Trm} (h:trmOk l) (hc:coefs l):trmOk (oppL l):=by
 intro x hx
 obtain ⟨y,hy,rfl⟩:=List.mem_map.1 hx
 refine ⟨(h y hy).1,(h y hy).2.1,?_⟩
 have:=hc y hy
 show okI (- y.2.2)
 unfold okI
 omega
end Go.Proofs.YtnknkkmdbnaglaaGreat

namespace Go.Proofs.YtnknkkmdbnaglaaGreat
open Go.RowKit Go.Shelf
def RoppPost (l:List Trm) (w:World) (e:Ending) (w':World):Prop:=Ext w w'∧∃ v,e=.returned v∧TmOwn w' w.heap.size v l
set_option maxHeartbeats 4000000 in
theorem ropp_any (w:World) (D:TmD) (hD:D.At w) (hc:coefs D.l) (hl:D.l.length≤64):Calls Tryz.prog 35 #[.slice D.s.a D.s.n D.s.c] w (RoppPost (oppL D.l) w):=by
 obtain ⟨i1,hi1,hz0,hz1,hz2⟩:=info_parts infoTerm
 have HD:=Lib.hid hD
 have HCF:=Lib.hid hc
 unfold RoppPost
 obtain ⟨da,hda⟩:∃ z,z=D.s.a:=⟨_,rfl⟩
 have HDA:=Lib.hid hda
 obtain ⟨n,hn⟩:∃ n,n=D.s.n:=⟨_,rfl⟩
 have HN:=Lib.hid hn
 have hn64:n≤64:=by rw [D.len] at hl;omega
 have HLN:=Lib.hid (show D.l.length=n from by rw [D.len,hn])
 rw [←hda,←hn]
 clear hD hc hl hda hn
 have hww:Ext w w:=Ext.refl _
 go_enter Tryz.func35,Tryz.ntmps35
 go_wp2_with fail
 go_loopg [3,4] n (fun gg v3 v4 wr=>∃ k:Nat,k≤n∧gg=n - k∧v4=.int .i64 k∧wr.ownsRow w.heap.size 62 3 v3 k (trmCells (oppL (D.l.take k)))∧Ext w wr)
 case atStart=>exact ⟨0,by omega,rfl,rfl,World.ownsRow_nil _ _ _ _,hww⟩
 case round=>
  obtain ⟨k,hk,rfl,rfl,hq,hxr⟩:=hrel
  obtain ⟨a6,c6,rfl⟩:=own_form hq
  have HQ:=Lib.hid hq
  clear hq
  by_cases hlt:k<n
  ·have hlt':(k:Int)<(n:Int):=by omega
   have hjs:k<D.s.n:=by rw [←HN.out];exact hlt
   obtain rfl:da=some ⟨D.s.b,D.s.o,none⟩:=by rw [HDA.out];exact HD.out.ha (by omega)
   have hdb:∀ w',Ext w w'→D.s.b<w'.heap.size:=fun w' x=>Nat.lt_of_lt_of_le (HD.out.hb (by omega)) x.le
   obtain ⟨pp,hpp⟩:∃ z,z=D.p k:=⟨_,rfl⟩
   obtain ⟨nm,hnm⟩:∃ z,z=D.nm k:=⟨_,rfl⟩
   obtain ⟨cc,hcc⟩:∃ z,z=D.c k:=⟨_,rfl⟩
   have q0:∀ w',Ext w w'→w'.cell? ⟨D.s.b,D.s.o+k*3,none⟩=some (.int .i64 pp):=fun w' x=>by rw [hpp];exact (HD.out.ext x).c0 k hjs
   have q1:∀ w',Ext w w'→w'.cell? ⟨D.s.b,D.s.o+k*3+1,none⟩=some (.string nm):=fun w' x=>by rw [hnm];exact (HD.out.ext x).c1 k hjs
   have q2:∀ w',Ext w w'→w'.cell? ⟨D.s.b,D.s.o+k*3+2,none⟩=some (.int .i64 cc):=fun w' x=>by rw [hcc];exact (HD.out.ext x).c2 k hjs
   have hcb:=HCF.out (D.at k) (TmD.mem.2 ⟨k,hjs,rfl⟩)
   have e22:(D.at k).2.2=cc:=hcc.symm
   rw [e22] at hcb
   have hw1:IntKind.i64.wrap (- cc)=- cc:=IntWalk.i64_in _ (by omega)
   have HNX:=Lib.hid (show trmCells (oppL (D.l.take (k+1)))=trmCells (oppL (D.l.take k))++[.int .i64 pp,.string nm,.int .i64 (- cc)] from by
    rw [List.take_add_one,D.get hjs]
    show trmCells (oppL (D.l.take k++[D.at k]))=_
    have:oppL (D.l.take k++[D.at k])=oppL (D.l.take k)++[(pp,nm,- cc)]:=by simp [oppL,TmD.at,hpp,hnm,hcc]
    rw [this,trmCells_snoc])
   clear hpp hnm hcc e22
   go_upto_region 5 with fail
   refine wp_region_held_drew (S:=fun w'=>Ext w w') (by kernel_rfl) hxr.drew (fun hHeld=>?_)
   refine hQ 0 (v:=?_) rfl (y:=.inl ⟨by rfl,?_⟩) (h:=?_)
   rotate_left
   ·(intro w' hSw;(try dsimp only at hSw);go_simp;try with_reducible rfl)
   try simp only [Act.put,zA,zB,zC]
   refine hQ 1 (v:=?_) rfl (y:=.inl ⟨by rfl,?_⟩) (h:=?_)
   rotate_left
   ·(intro w' hSw;(try dsimp only at hSw);go_simp;try with_reducible rfl)
   try simp only [Act.put,zA,zB,zC]
   refine hQ 2 (v:=?_) rfl (y:=.inl ⟨by rfl,?_⟩) (h:=?_)
   rotate_left
   ·(intro w' hSw;(try dsimp only at hSw);go_simp;try with_reducible rfl)
   try simp only [Act.put,zA,zB,zC]
   refine hQ 3 (v:=?_) rfl (y:=.inl ⟨by rfl,?_⟩) (h:=?_)
   rotate_left
   ·(intro w' hSw;(try dsimp only at hSw);go_simp;try with_reducible rfl)
   try simp only [Act.put,zA,zB,zC]
   refine hQ 4 (v:=?_) rfl (y:=.inl ⟨by rfl,?_⟩) (h:=?_)
   rotate_left
   ·(intro w' hSw;(try dsimp only at hSw);go_simp;try with_reducible rfl)
   try simp only [Act.put,zA,zB,zC]
   refine hQ 5 (v:=?_) rfl (y:=.inl ⟨by rfl,?_⟩) (h:=?_)
   rotate_left
   ·(intro w' hSw;(try dsimp only at hSw);go_simp;try with_reducible rfl)
   try simp only [Act.put,zA,zB,zC]
   refine hQ 6 (v:=?_) rfl (y:=.inl ⟨by rfl,?_⟩) (h:=?_)
   rotate_left
   ·(intro w' hSw;(try dsimp only at hSw);go_simp;try with_reducible rfl)
   try simp only [Act.put,zA,zB,zC]
   refine hQ 7 (v:=?_) rfl (y:=.inl ⟨by rfl,?_⟩) (h:=?_)
   rotate_left
   ·(intro w' hSw;(try dsimp only at hSw);go_simp;try with_reducible rfl)
   try simp only [Act.put,zA,zB,zC]
   refine hQ 8 (v:=?_) rfl (y:=.inl ⟨by rfl,?_⟩) (h:=?_)
   rotate_left
   ·(intro w' hSw;(try dsimp only at hSw);go_simp;try with_reducible rfl)
   try simp only [Act.put,zA,zB,zC]
   refine hQ 9 (v:=?_) rfl (y:=.inl ⟨by rfl,?_⟩) (h:=?_)
   rotate_left
   ·(intro w' hSw;(try dsimp only at hSw);go_simp;try with_reducible rfl)
   try simp only [Act.put,zA,zB,zC]
   refine hQ 10 (v:=?_) rfl (y:=.inl ⟨by rfl,?_⟩) (h:=?_)
   rotate_left
   ·(intro w' hSw;(try dsimp only at hSw);go_simp;try with_reducible rfl)
   try simp only [Act.put,zA,zB,zC]
   refine hQ 11 (v:=?_) rfl (y:=.inl ⟨by rfl,?_⟩) (h:=?_)
   rotate_left
   ·(intro w' hSw;(try dsimp only at hSw);go_simp;try with_reducible rfl)
   try simp only [Act.put,zA,zB,zC]
   refine hQ 12 (v:=?_) rfl (y:=.inl ⟨by rfl,?_⟩) (h:=?_)
   rotate_left
   ·(intro w' hSw;(try dsimp only at hSw);go_simp;try with_reducible rfl)
   try simp only [Act.put,zA,zB,zC]
   refine hQ 13 (v:=?_) rfl (y:=.inl ⟨by rfl,?_⟩) (h:=?_)
   rotate_left
   ·(intro w' hSw;(try dsimp only at hSw);go_simp;try with_reducible rfl)
   try simp only [Act.put,zA,zB,zC]
   refine hQ 14 (v:=?_) rfl (y:=.inl ⟨by rfl,?_⟩) (h:=?_)
   rotate_left
   ·(intro w' hSw;(try dsimp only at hSw);go_simp;try with_reducible rfl)
   try simp only [Act.put,zA,zB,zC]
   refine hQ 15 (v:=?_) rfl (y:=.inl ⟨by rfl,?_⟩) (h:=?_)
   rotate_left
   ·(intro w' hSw;(try dsimp only at hSw);go_simp;try with_reducible rfl)
   try simp only [Act.put,zA,zB,zC]
   refine hQ 16 (v:=?_) rfl (y:=.inl ⟨by rfl,?_⟩) (h:=?_)
   rotate_left
   ·(intro w' hSw;(try dsimp only at hSw);go_simp;try with_reducible rfl)
   try simp only [Act.put,zA,zB,zC]
   refine hQ 17 (v:=?_) rfl (y:=.inl ⟨by rfl,?_⟩) (h:=?_)
   rotate_left
   ·(intro w' hSw;(try dsimp only at hSw);go_simp;try with_reducible rfl)
   try simp only [Act.put,zA,zB,zC]
   refine wpAnyH_ready (rs:=[18]) (by kernel_rfl) (by simp) ?_
   refine AllReadyH.cons rfl (fun K hK=>?_) AllReadyH.nil
   go_simp
   refine hK.out _ _ ?_ (fun hHeld3=>?_)
   ·exact hxr.drew.alloc' _
   clear hK K
   try simp only [Act.put,zA,zB,zC]
   refine wpAnyH_ready (rs:=[19]) (by kernel_rfl) (by simp) ?_
   refine AllReadyH.cons rfl (fun K hK=>?_) AllReadyH.nil
   refine step_append_lies _ (by exact rfl) (.tmp 11) (.tmp 29) 25 (by exact rfl) w.heap.size 62 i1 (.agg #[.int .i64 0,.string ⟨#[]⟩,.int .i64 0]) 3 32 Tryz.underlying25 hi1 hz0 hz1 hz2 rfl (by decide) (.slice a6 k c6) k (trmCells (oppL (D.l.take k))) (by exact rfl) (by exact own_ext HQ.out ((Ext.refl wr).drew.alloc' _)) ⟨wr.heap.size,0,none⟩ 1 1 [.int .i64 pp,.string nm,.int .i64 (- cc)] (by exact rfl) rfl (by intro j u hj;exact news_ok wr [_,_,_] _ j u hj) (trm_one _ _ _) (by decide) (by unfold maxLen;omega) (by omega) (by have:=hxr.le;simp;omega) _ rfl ?_
   rintro g8 c8 w8 hown8 hg8 hor8 hlt8
   have hx8:Ext w w8:=(hxr.alloc' (.cells #[.int .i64 pp,.string nm,.int .i64 (- cc)] 62)).drew.below.grown hg8 (by have:=hxr.le;simp;omega) (fun g e=>(own_lt HQ.out g e).1)
   have HO8:=Lib.hid (show w8.ownsRow w.heap.size 62 3 (.slice (some ⟨g8,0,none⟩) (k+1) c8) (k+1) (trmCells (oppL (D.l.take (k+1)))) from by rw [HNX.out];exact hown8)
   clear hown8 hg8 hor8 hlt8
   refine hK.out _ _ ?_ (fun hHeld4=>?_)
   ·exact hx8
   clear hK K
   try simp only [Act.put,List.setIfInBounds_toArray]
   refine wpAnyH_ready (rs:=[20]) (by kernel_rfl) (by simp) ?_
   refine AllReadyH.cons rfl (fun K hK=>?_) AllReadyH.nil
   go_simp
   refine hK.out _ _ ?_ (fun hHeld5=>?_)
   ·exact hx8
   clear hK K
   try simp only [Act.put,zA,zB,zC]
   refine wpAnyH_done (by kernel_rfl) ?_ _
   clear hHeld hHeld3 hHeld4 hHeld5
   go_wp2_with fail
   go_roundg (n - (k+1))
   case rel=>exact ⟨k+1,by omega,rfl,by go_num,HO8.out,hx8⟩
   case measure=>omega
  ·obtain rfl:k=n:=by omega
   have HF:=Lib.hid (show TmOwn wr w.heap.size (.slice a6 k c6) (oppL D.l) from by
    have h1:=Que.own HQ.out
    rw [List.take_of_length_le (by rw [HLN.out];exact Nat.le_refl _)] at h1
    have e:(oppL D.l).length=k:=by rw [←HLN.out];simp [oppL]
    unfold TmOwn
    rw [e];exact h1)
   go_wp2_with fail
   go_ret
   exact ⟨hxr,_,rfl,HF.out⟩
end Go.Proofs.YtnknkkmdbnaglaaGreat

namespace Go.Proofs.YtnknkkmdbnaglaaGreat
open Go.RowKit
section
variable {P:Program} {ops:Array Oper} {Q:Exit→Act→World→Prop} {md:Region.Mode} {S R V:World→Prop} {t:Nat}
def Fresh (ops:Array Oper) (t:Nat) (l:Array Bool):Prop:=∀ j,t≤j→j<ops.size→l.getD j true=false
theorem getD_set_eq (l:Array Bool) (i:Nat):(l.setIfInBounds i true).getD i true=true:=by
 rcases Nat.lt_or_ge i l.size with h | h
 ·simp [h]
 ·simp [Nat.not_lt.2 h]
theorem Fresh.of_set {l:Array Bool} {i:Nat} (h:Fresh ops t (l.setIfInBounds i true)):Fresh ops t l:=fun j h1 h2=>by
 have h3:=h j h1 h2
 by_cases e:i=j
 ·subst e;rw [getD_set_eq] at h3;cases h3
 ·rw [getD_set_ne true e] at h3;exact h3
theorem Fresh.set {l:Array Bool} {i:Nat} (h:Fresh ops t l) (hi:i<t):Fresh ops t (l.setIfInBounds i true):=fun j h1 h2=>by
 rw [getD_set_ne true (by omega)];exact h j h1 h2
theorem Fresh.not {l:Array Bool} {i:Nat} (hi:t≤i) (h2:i<ops.size):¬Fresh ops t (l.setIfInBounds i true):=fun h=>by
 have h3:=h i hi h2
 rw [getD_set_eq] at h3;cases h3
def wpAnyT (P:Program) (md:Region.Mode) (ops:Array Oper) (Q:Exit→Act→World→Prop) (S R:World→Prop) (t:Nat):Nat→Array Bool→Act→World→Prop
 | 0,listed,a,w => Region.ready md ops listed=[]∧Q .normal a w
 | fuel+1,listed,a,w =>
  (Region.ready md ops listed=[]→Q .normal a w)∧
  ∀ i∈Region.ready md ops listed,wpOp P ops Q i (fun a' w'=>(S w'∧(Fresh ops t (listed.setIfInBounds i true)→R w'))∧wpAnyT P md ops Q S R t fuel (listed.setIfInBounds i true) a' w') a w
theorem wpAny_ofT:∀ (fuel:Nat) (listed:Array Bool) (a:Act) (w:World),wpAnyT P md ops Q S R t fuel listed a w→wpAny P md ops Q fuel listed a w
 | 0,_,_,_,h => h
 | fuel+1,_,_,_,h => ⟨h.1,fun i hi => wpOp_mono (fun a' w' h' => wpAny_ofT fuel _ a' w' h'.2) (h.2 i hi)⟩
theorem wpAnyT_first {Z : Array Bool → Prop} {i : Nat} {oi : Oper} {v : Value} (hi : ops[i]? = some oi) (hsel : ∀ (j : Nat) (o : Oper) cs b, ops[j]? = some o → o.op ≠ .select cs b)
    (hQ:∀ c a w,Q (.panic c) (a.put oi.dst v) w→Q (.panic c) a w)
    (hV:∀ l w,S w→(Fresh ops t l→R w)→Z l→V w)
    (hZ:∀ (l:Array Bool) (j:Nat) (oj:Oper),Z l→ops[j]?=some oj→(∀ e∈oj.after,Region.binds md e=true→e.on≠i)→Z (l.setIfInBounds j true))
    (hit:i<t):∀ (fuel:Nat) (listed:Array Bool) (a:Act) (w:World),
     (∀ j oj,ops[j]?=some oj→j≠i→listed.getD j true=false→(∀ e∈oj.after,Region.binds md e=true→e.on≠i)→oi.apart ops oj=true)→
     i∈Region.ready md ops listed→YieldsIf P ops V oi v a→Z listed→S w→(Fresh ops t listed→R w)→
     wpAnyT P md ops Q S R t fuel (listed.setIfInBounds i true) (a.put oi.dst v) w→wpAnyT P md ops Q S R t (fuel+1) listed a w:=by
 intro fuel
 induction fuel with
 | zero =>
  intro listed a w _ hr hy hz hS hR H
  refine ⟨fun h=>(by rw [h] at hr;cases hr),fun j hj=>?_⟩
  by_cases hji:j=i
  ·subst hji;exact hy.wpOp hi (hV listed w hS hR hz) ⟨⟨hS,fun h=>hR h.of_set⟩,H⟩
  ·have:=ready_mono hj hji
   rw [H.1] at this
   cases this
 | succ fuel ih =>
  intro listed a w hfree hr hy hz hS hR H
  refine ⟨fun h=>(by rw [h] at hr;cases hr),fun j hj=>?_⟩
  by_cases hji:j=i
  ·subst hji;exact hy.wpOp hi (hV listed w hS hR hz) ⟨⟨hS,fun h=>hR h.of_set⟩,H⟩
  ·have h1:=H.2 j (ready_mono hj hji)
   obtain ⟨hjun,oj,hoj,hall⟩:=mem_ready.1 hj
   have hnot:∀ e∈oj.after,Region.binds md e=true→e.on≠i:=fun e he hb heq=>by
    have h1:=hall e he hb
    have h0:=(mem_ready.1 hr).1
    rw [heq] at h1
    rcases Nat.lt_or_ge i listed.size with h' | h'
    ·simp [h'] at h0 h1;rw [h0] at h1;cases h1
    ·simp [Array.getElem?_eq_none h'] at h1
   have h2:=wpOp_putIf hoj (hfree j oj hoj hji hjun hnot) (fun cs b=>hsel i oi cs b hi) (fun cs b=>hsel j oj cs b hoj) hQ hy h1
   have hfree' : ∀ k ok, ops[k]? = some ok → k ≠ i → (listed.setIfInBounds j true).getD k true = false →
       (∀ e∈ok.after,Region.binds md e=true→e.on≠i)→oi.apart ops ok=true:=fun k ok hk hki hun hno=>by
    refine hfree k ok hk hki ?_ hno
    by_cases hjk:j=k
    ·subst hjk;exact hjun
    ·rw [getD_set_ne true hjk] at hun;exact hun
   have hi':=ready_mono hr (Ne.symm hji)
   have hcomm:∀ (l:Array Bool),(l.setIfInBounds i true).setIfInBounds j true=(l.setIfInBounds j true).setIfInBounds i true:=fun l=>Array.setIfInBounds_comm _ _ (Ne.symm hji)
   refine wpOp_mono (fun a' w' h3=>?_) h2
   have hRj:Fresh ops t (listed.setIfInBounds j true)→R w':=fun hf=>h3.2.1.2 (by rw [hcomm];exact hf.set hit)
   refine ⟨⟨h3.2.1.1,hRj⟩,ih (listed.setIfInBounds j true) a' w' hfree' hi' h3.1 (hZ listed j oj hz hoj hnot) h3.2.1.1 hRj ?_⟩
   rw [←hcomm]
   exact h3.2.2
def lateWait (md:Region.Mode) (l:List Oper) (t i:Nat):Bool:=(l.zipIdx.drop t).all fun x=>x.1.after.toList.any fun e=>Region.binds md e && e.on == i
theorem lateWait_lt {l:List Oper} {i j:Nat} {oj:Oper} (h:lateWait md l t i=true) (hj:l.toArray[j]?=some oj) (hn:∀ e∈oj.after,Region.binds md e=true→e.on≠i):j<t:=by
 refine Nat.lt_of_not_le fun hle=>?_
 unfold lateWait at h
 rw [List.all_eq_true] at h
 have hj':l[j]?=some oj:=by simpa using hj
 have hm:(oj,j)∈l.zipIdx.drop t:=by
  rw [List.mem_iff_getElem?]
  refine ⟨j - t,?_⟩
  rw [List.getElem?_drop,show t+(j - t)=j by omega,List.getElem?_zipIdx,hj']
  simp
 have h1:=h _ hm
 rw [List.any_eq_true] at h1
 obtain ⟨e,he,h2⟩:=h1
 rw [Bool.and_eq_true] at h2
 exact hn e (by simpa using he) h2.1 (by simpa using h2.2)
theorem takeR {l : List Oper} (i : Nat) {oi : Oper} {v : Value} {fuel : Nat} {listed : Array Bool} {a : Act} {w : World} (hi : l[i]? = some oi)
    (hs:Region.noSelect l.toArray=true) (hf:Region.free md l.toArray listed i=true) (hr:(Region.ready md l.toArray listed).contains i=true)
    (hw:lateWait md l t i=true) (hl:(l.zipIdx.drop t).all (fun x=>!(listed.getD x.2 true))=true)
    (hQ:∀ c a w,Q (.panic c) (a.put oi.dst v) w→Q (.panic c) a w) (hit:i<t) (hy:YieldsIf P l.toArray (fun w=>S w∧R w) oi v a) (hS:S w) (hR:R w)
    (h:wpAnyT P md l.toArray Q S R t fuel (listed.setIfInBounds i true) (a.put oi.dst v) w):wpAnyT P md l.toArray Q S R t (fuel+1) listed a w:=by
 refine wpAnyT_first (V:=fun w=>S w∧R w) (Z:=Fresh l.toArray t) (by simpa using hi) (Region.noSelect_spec hs) hQ (fun _ _ h h2 h3=>⟨h,h2 h3⟩) (fun _ _ _ h3 h4 h5=>h3.set (lateWait_lt hw h4 h5)) hit fuel listed a w (Region.free_spec (by simpa using hi) hf) (by simpa using hr) hy ?_ hS (fun _=>hR) h
 intro j h1 h2
 rw [List.all_eq_true] at hl
 have h2':j<l.length:=by simpa using h2
 have hm:(l[j],j)∈l.zipIdx.drop t:=by
  rw [List.mem_iff_getElem?]
  refine ⟨j - t,?_⟩
  rw [List.getElem?_drop,show t+(j - t)=j by omega,List.getElem?_zipIdx,List.getElem?_eq_getElem h2']
  simp
 have:=hl _ hm
 simpa using this
def AllReadyT (P:Program) (md:Region.Mode) (ops:Array Oper) (Q:Exit→Act→World→Prop) (S R:World→Prop) (t fuel:Nat) (listed:Array Bool) (a:Act) (w:World) (rs:List Nat):Prop:=
 ∀ i∈rs,wpOp P ops Q i (fun a' w'=>(S w'∧(Fresh ops t (listed.setIfInBounds i true)→R w'))∧wpAnyT P md ops Q S R t fuel (listed.setIfInBounds i true) a' w') a w
theorem AllReadyT.nil {fuel:Nat} {listed:Array Bool} {a:Act} {w:World}:AllReadyT P md ops Q S R t fuel listed a w []:=fun _ h=>by cases h
theorem AllReadyT.late {fuel : Nat} {listed : Array Bool} {a : Act} {w : World} {i : Nat} {o : Oper} {rs : List Nat} (ho : ops[i]? = some o) (ht : t ≤ i)
    (h:∀ K':Act→World→Prop,Shut (∀ a w,S w→(S w→wpAnyT P md ops Q S R t fuel (listed.setIfInBounds i true) a w)→K' a w)→if Region.wanted o (yielded ops a.tmps)=true then Oper.wp P o a w K' Q else K' (a.put o.dst undef) w)
    (hs:AllReadyT P md ops Q S R t fuel listed a w rs):AllReadyT P md ops Q S R t fuel listed a w (i :: rs):=fun j hj=>by
 rcases List.mem_cons.1 hj with rfl | hj
 ·exact wpOp_step ho (fun K' hK => h K' (fun a w hS hW => hK a w ⟨⟨hS, fun hf => absurd hf (Fresh.not ht (by
    have:=Array.getElem?_eq_some_iff.1 ho
    exact this.1))⟩,hW hS⟩))
 ·exact hs j hj
theorem wpAnyT_ready {rs : List Nat} {fuel : Nat} {listed : Array Bool} {a : Act} {w : World} (hr : Region.ready md ops listed = rs) (hne : rs ≠ [])
    (h:AllReadyT P md ops Q S R t fuel listed a w rs):wpAnyT P md ops Q S R t (fuel+1) listed a w:=⟨fun h0=>absurd (hr▸h0) hne,hr▸h⟩
theorem wpAnyT_done {listed : Array Bool} {a : Act} {w : World} (hr : Region.ready md ops listed = []) (h : Q .normal a w) :
    ∀ fuel,wpAnyT P md ops Q S R t fuel listed a w
 | 0 => ⟨hr,h⟩
 | _+1 => ⟨fun _ => h,by rw [hr];simp⟩
theorem wp_region_T {id : Nat} {a : Act} {w : World} (hm : P.follows .mixedOrders = true) (hS : S w.drew) (hR : R w.drew)
    (h:S w.drew∧R w.drew→wpAnyT P .any ops Q S R t ops.size (Array.replicate ops.size false) a w.drew):(Code.region id ops true).wp P Q a w:=
 wp_region_any hm (wpAny_ofT _ _ _ _ (h ⟨hS,hR⟩))
end
end Go.Proofs.YtnknkkmdbnaglaaGreat

namespace Go.Proofs.YtnknkkmdbnaglaaGreat
open Go.RowKit
def upC (c:Nat→Nat) (p:Nat):Nat→Nat:=fun q=>if q=p then c q+1 else c q
theorem upC_same (c:Nat→Nat) (p:Nat):upC c p p=c p+1:=by simp [upC]
theorem upC_other {c:Nat→Nat} {p q:Nat} (h:q≠p):upC c p q=c q:=by simp [upC,h]
theorem upC_ge (c:Nat→Nat) (p q:Nat):c q≤upC c p q:=by unfold upC;split <;> omega
def Tr.On (T:Tr) (c:Nat→Nat) (p:Nat):Prop:=c p<T.en p∧(T.kind p (c p)=3→(T.sndN (p,c p)).2<c (T.sndN (p,c p)).1)
theorem Tr.CutOk.up {T:Tr} {c:Nat→Nat} (h:T.CutOk c) {p:Nat} (ho:T.On c p):T.CutOk (upC c p):=by
 refine ⟨fun q hq=>?_,fun x hx hl h3=>?_⟩
 ·unfold upC
  split
  ·next e=>subst e;exact ho.1
  ·exact h.le q hq
 ·refine Nat.lt_of_lt_of_le ?_ (upC_ge c p _)
  by_cases e:x.2<c x.1
  ·exact h.cl x hx e h3
  ·have hxp : x = (p, c p) := by
     by_cases e1:x.1=p
     ·rw [e1,upC_same] at hl
      rw [e1] at e
      exact Prod.ext e1 (by dsimp only;omega)
     ·rw [upC_other e1] at hl;omega
   subst hxp
   exact ho.2 h3
theorem Tr.On.of_up {T:Tr} (hV:T.Valid) {c:Nat→Nat} {p:Nat} (hp:p<T.n) (h:T.CutOk (upC c p)):T.On c p:=by
 have h1:=h.le p hp
 rw [upC_same] at h1
 refine ⟨h1,fun h3=>?_⟩
 have hx:T.V (p,c p):=⟨hp,h1⟩
 have h2:=h.cl (p,c p) hx (by rw [upC_same];exact Nat.lt_succ_self _) h3
 by_cases e:(T.sndN (p,c p)).1=p
 ·rw [e,upC_same] at h2
  have hne:T.sndN (p,c p)≠(p,c p):=fun e2=>by
   have h4:=(hV.sndN hx h3).1
   rw [e2] at h4
   have h3':T.kind p (c p)=3:=h3
   rw [h3'] at h4;omega
  have:(T.sndN (p,c p)).2≠c p:=fun e3=>hne (Prod.ext e e3)
  rw [e];omega
 ·rw [upC_other e] at h2;exact h2
theorem Tr.atC_up {T:Tr} {w:Nat→Int} {c:Nat→Nat} {p:Nat} (hp:p<T.n):T.atC w (upC c p)=T.atC w c+w (T.num (p,c p)):=by
 unfold Tr.atC
 rw [←isum_set (fun q=>isum (c q) fun i=>w (T.num (q,i))) p (w (T.num (p,c p))) hp]
 refine isum_congr fun q _=>?_
 by_cases e:q=p
 ·subst e
  rw [if_pos rfl,upC_same];rfl
 ·rw [if_neg e,upC_other e]
theorem Tr.on_ex {T:Tr} (hV:T.Valid) {c d:Nat→Nat} (hd:T.CutOk d) {p:Nat} (hp:p<T.n) (h:c p<d p):∃ q,q<T.n∧c q<d q∧T.On c q:=by
 refine Classical.byContradiction fun hn=>?_
 have key:=hV.ind (P:=fun x=>¬(c x.1≤x.2∧x.2<d x.1)) (fun y hy ih ⟨h1,h2⟩=>by
  by_cases e:c y.1<y.2
  ·have hx:T.V (y.1,y.2 - 1):=⟨hy.1,by have:=hy.2;show y.2 - 1<T.en y.1;omega⟩
   exact ih (y.1,y.2 - 1) hx (.inl ⟨rfl,by show y.2=y.2 - 1+1;omega⟩) ⟨by show c y.1≤y.2 - 1;omega,by show y.2 - 1<d y.1;omega⟩
  ·have e2:c y.1=y.2:=by omega
   refine hn ⟨y.1,hy.1,by omega,by have:=hy.2;omega,?_⟩
   rw [e2]
   intro h3
   exact Nat.lt_of_not_le fun hge=>ih (T.sndN y) (Tr.sndN_V hy) (.inr ⟨h3,rfl⟩) ⟨hge,hd.cl y hy h2 h3⟩)
 exact key (p,c p) ⟨hp,by have:=hd.le p hp;show c p<T.en p;omega⟩ ⟨Nat.le_refl _,h⟩
structure Tr.Way (T:Tr) (w:Nat→Int) (b:Int) (d:Nat→Nat) (k:Int) (c:Nat→Nat):Prop where
 cut:T.CutOk c
 le:∀ p,p<T.n→c p≤d p
 lo:b≤k→b+T.atC w c≤k
 hi:k≤b→k≤b+T.atC w c
theorem Tr.atC_zero (T:Tr) (w:Nat→Int):T.atC w (fun _=>0)=0:=by
 unfold Tr.atC
 exact (isum_congr fun _ _=>rfl).trans (isum_zero _)
theorem Tr.Way.start (T:Tr) (w:Nat→Int) (b:Int) (d:Nat→Nat) (k:Int):T.Way w b d k fun _=>0:=
 ⟨Tr.CutOk.zero T,fun _ _=>Nat.zero_le _,fun h=>by rw [T.atC_zero];omega,fun h=>by rw [T.atC_zero];omega⟩
def UnitW (w:Nat→Int) (m:Nat):Prop:=∀ v,v<m→iabs (w v)≤1
theorem Tr.Way.next {T:Tr} {w:Nat→Int} {b:Int} {d:Nat→Nat} {k:Int} {c:Nat→Nat} (h:T.Way w b d k c) (hu:UnitW w (tott T.en T.n)) (hn:b+T.atC w c≠k) {p:Nat} (hp:p<T.n) (hl:c p<d p) (ho:T.On c p):T.Way w b d k (upC c p):=by
 have h1:=hu (T.num (p,c p)) (Tr.num_lt ⟨hp,ho.1⟩)
 have h2:iabs (w (T.num (p,c p)))=if w (T.num (p,c p))<0 then - w (T.num (p,c p)) else w (T.num (p,c p)):=rfl
 have h3:=h.lo
 have h4:=h.hi
 refine ⟨h.cut.up ho,fun q hq=>?_,fun hb=>?_,fun hb=>?_⟩
 ·unfold upC
  split
  ·next e=>subst e;exact hl
  ·exact h.le q hq
 ·rw [Tr.atC_up hp]
  have:=h3 hb
  split at h2 <;> omega
 ·rw [Tr.atC_up hp]
  have:=h4 hb
  split at h2 <;> omega
def Tr.Out (T:Tr) (w:Nat→Int) (b k:Int):Prop:=(∀ d,T.CutOk d→k<b+T.atC w d)∨∀ d,T.CutOk d→b+T.atC w d<k
theorem Tr.Way.last {T:Tr} (hV:T.Valid) {w:Nat→Int} {b:Int} {d:Nat→Nat} {k:Int} {c:Nat→Nat} (h:T.Way w b d k c) (hd:T.CutOk d) (hn:b+T.atC w c≠k) (hl:∀ p,p<T.n→T.On c p→¬c p<d p):(b≤k→b+T.atC w d<k)∧(k≤b→k<b+T.atC w d):=by
 have he:∀ p,p<T.n→c p=d p:=fun p hp=>by
  have:=h.le p hp
  refine Nat.le_antisymm this (Nat.le_of_not_lt fun hlt=>?_)
  obtain ⟨q,hq,h1,h2⟩:=Tr.on_ex hV hd hp hlt
  exact hl q hq h2 h1
 rw [Tr.atC_congr he] at hn
 have h3:=h.lo
 have h4:=h.hi
 rw [Tr.atC_congr he] at h3 h4
 exact ⟨fun hb=>by have:=h3 hb;omega,fun hb=>by have:=h4 hb;omega⟩
theorem Tr.Best.above {T:Tr} {b v:Int} {w:Nat→Int} {c:Nat→Nat} (h:T.Best b w v c) {d:Nat→Nat} (hd:T.CutOk d):b+T.atC w d≤v:=by
 have:=h.most d hd
 have:=h.val
 omega
theorem Tr.atC_neg' (T:Tr) (w:Nat→Int) (c:Nat→Nat):T.atC (fun v=>- w v) c=- T.atC w c:=by
 have h1:T.atC (fun v=>- w v) c+T.atC w c=0:=by
  unfold Tr.atC
  rw [←isum_add,←isum_zero T.n]
  refine isum_congr fun p _=>?_
  rw [←isum_add,←isum_zero (c p)]
  exact isum_congr fun i _=>by dsimp only;omega
 omega
theorem Tr.Best.below {T:Tr} {b v:Int} {w:Nat→Int} {c:Nat→Nat} (h:T.Best (- b) (fun v=>- w v) v c) {d:Nat→Nat} (hd:T.CutOk d):- v≤b+T.atC w d:=by
 have h1:=h.most d hd
 have h2:=h.val
 rw [Tr.atC_neg',Tr.atC_neg'] at h1
 rw [Tr.atC_neg'] at h2
 omega
end Go.Proofs.YtnknkkmdbnaglaaGreat

namespace Go.Proofs.YtnknkkmdbnaglaaGreat
open Go.RowKit Go.Shelf
set_option maxHeartbeats 1000000 in
theorem rnum_any (w : World) (T : TM) (hT : T.At w) (hV : T.toTr.Valid) (p i : Nat) (hp : p < T.n) (hi : i < T.en p) :
    Calls Tryz.prog 91 #[T.val,.agg #[.int .i64 p,.int .i64 ((i:Int)+1)]] w fun e w'=>e=.returned (.int .i64 (T.toTr.num (p,i):Nat))∧Ext w w':=by
 have hsm:=fun k (hk:k≤T.n)=>tot_small (f:=T.en) (c:=64) (n:=k) (fun j hj=>hV.en64 (by omega))
 have HSM:=Lib.hid hsm
 have HV:=Lib.hid hV
 have HT:=Lib.hid hT
 have hn8:=hV.n8
 have hen:=hV.en64 hp
 obtain ⟨ta,hta⟩:∃ z,z=T.a:=⟨_,rfl⟩
 have HTA:=Lib.hid hta
 have hw1:IntKind.i64.wrap ((i:Int)+1 - 1)=(i:Int):=by rw [IntWalk.i64_in _ (by omega)];omega
 simp only [TM.val]
 rw [←hta]
 clear hT hV hta hsm
 go_enter Tryz.func91,Tryz.ntmps91
 go_upto_region 1 with fail
 refine boxed2 (w:=w) (G:=fun x=>Code.wp _ _ _ _ x) ?_
 intro w1 hx1 hs1 ⟨l0,c0,_,_⟩ ⟨l1,c1,_,_⟩
 have hx11:Ext w1 w1:=Ext.refl _
 clear hs1
 go_wp2_with fail
 go_loopg [5,6] p (fun gg v5 v6 wr=>∃ k:Nat,k≤p∧gg=p - k∧v6=.int .i64 k∧v5=.int .i64 (i+tott T.en k:Nat)∧Ext w1 wr)
 case atStart=>exact ⟨0,by omega,rfl,rfl,rfl,hx11⟩
 case round=>
  obtain ⟨k,hk,rfl,rfl,rfl,hxr⟩:=hrel
  have hxw:=hx1.trans hxr
  by_cases hlt:k<p
  ·have hlt':(k:Int)<(p:Int):=by omega
   have hkn:(k:Int)<(T.n:Int):=by omega
   have hk2:k<T.n:=by omega
   obtain rfl:ta=some ⟨T.b,T.off,none⟩:=by rw [HTA.out];exact HT.out.P.pa (by omega)
   have pb:=HT.out.P.pb (by omega)
   have p2:∀ w',Ext w w'→w'.cell? ⟨T.b,T.off+k*3+2,none⟩=some (.slice (T.ea k) (T.en k) (T.ec k)):=fun w' h=>HT.out.P.p2 w' h k hk2
   have h1:=HSM.out k (by omega)
   rw [←tott_tot] at h1
   have h2:=HV.out.en64 hk2
   have HNX:=Lib.hid (show i+tott T.en (k+1)=i+tott T.en k+T.en k from by show i+(tott T.en k+T.en k)=_;omega)
   obtain ⟨s,hs⟩:∃ s,s=i+tott T.en k:=⟨_,rfl⟩
   have hs9:s≤1000:=by omega
   rw [←hs] at HNX ⊢
   have hw2:IntKind.i64.wrap ((s:Int)+(T.en k:Int))=(s:Int)+(T.en k:Int):=IntWalk.i64_in _ (by omega)
   clear hs h1
   go_wp2_with fail
   go_roundg (p - (k+1))
   case rel=>exact ⟨k+1,by omega,rfl,by go_num,congrArg (Value.int .i64) (by rw [HNX.out];omega),hxr⟩
   case measure=>omega
  ·obtain rfl:k=p:=by omega
   go_wp2_with fail
   go_ret
   exact ⟨ret_int (by show _=((tott T.en k+i:Nat):Int);omega),hxw⟩
def RuniP (T:Tr) (ts:List Trm):Prop:=∀ p i,p<T.n→i<T.en p→iabs (T.wt ts p i)≤1
set_option maxHeartbeats 2000000 in
theorem runi_any (w : World) (T : TM) (hT : T.At w) (D : TmD) (hD : D.At w) (hO : T.SumOk D.l) :
    Calls Tryz.prog 29 #[T.val,.slice D.s.a D.s.n D.s.c] w (BoolPost (RuniP T.toTr D.l) w):=by
 have hV:=hO.v
 have hn8:=hV.n8
 have HWT:=Lib.hid (fun W (h:Ext w W) (q i:Nat) hq hi=>(show Calls Tryz.prog 83 #[T.val,.slice D.s.a D.s.n D.s.c,.int .i64 q,.int .i64 ((i:Int)+1)] W fun e w'=>e=.returned (.int .i64 (T.wt D.l q i))∧Ext W w' from by
  have h1:=rwt39_any W T (hT.ext h) D (hD.ext h) hV hO.known hO.coef hO.len q i (i+1) hq hi rfl
  rw [show ((i+1:Nat):Int)=(i:Int)+1 from by omega] at h1
  exact h1))
 have HWA:=Lib.hid (fun k i (hi:i<T.en k)=>Tr.wt_abs hV hO.known hO.coef hO.len hi)
 have HV:=Lib.hid hV
 have HT:=Lib.hid hT
 obtain ⟨ta,hta⟩:∃ z,z=T.a:=⟨_,rfl⟩
 have HTA:=Lib.hid hta
 simp only [TM.val] at HWT ⊢
 rw [←hta] at HWT
 rw [←hta]
 clear hT hD hO hV hta
 go_enter Tryz.func29,Tryz.ntmps29
 go_upto_region 1 with fail
 refine boxed1 (w:=w) (G:=fun x=>Code.wp _ _ _ _ x) ?_
 intro w1 hx1 hs1 ⟨l0,c0,_,_⟩
 have hx11:Ext w1 w1:=Ext.refl _
 clear hs1
 go_wp2_with fail
 go_loopg [5] T.n (fun gg v5 wr=>∃ k:Nat,k≤T.n∧gg=T.n - k∧v5=.int .i64 k∧Ext w1 wr∧∀ p i,p<k→i<T.en p→iabs (T.wt D.l p i)≤1)
 case atStart=>exact ⟨0,by omega,rfl,rfl,hx11,fun p i h=>by omega⟩
 case round=>
  obtain ⟨k,hk,rfl,rfl,hxr,hall⟩:=hrel
  have HA:=Lib.hid hall
  have hxw:=hx1.trans hxr
  clear hall
  by_cases hlt:k<T.n
  ·have hlt':(k:Int)<(T.n:Int):=by omega
   obtain rfl:ta=some ⟨T.b,T.off,none⟩:=by rw [HTA.out];exact HT.out.P.pa (by omega)
   have hen:=HV.out.en64 hlt
   have pb:=HT.out.P.pb (by omega)
   have p2:∀ w',Ext w w'→w'.cell? ⟨T.b,T.off+k*3+2,none⟩=some (.slice (T.ea k) (T.en k) (T.ec k)):=fun w' h=>HT.out.P.p2 w' h k hlt
   go_wp2_with fail
   go_loopg [6] (T.en k) (fun gg v6 wr=>∃ i:Nat,i≤T.en k∧gg=T.en k - i∧v6=.int .i64 ((i:Int)+1)∧Ext w1 wr∧∀ j,j<i→iabs (T.wt D.l k j)≤1)
   case atStart=>exact ⟨0,by omega,rfl,rfl,hxr,fun j h=>by omega⟩
   case round=>
    obtain ⟨i,hi,rfl,rfl,hxi,hall⟩:=hrel
    have HA2:=Lib.hid hall
    have hxwi:=hx1.trans hxi
    clear hall
    by_cases hli:i<T.en k
    ·have hli':(i:Int)+1≤(T.en k:Int):=by omega
     have d3:decide ((i:Int)+1≤(T.en k:Int))=true:=decide_eq_true hli'
     have hw9:IntKind.i64.wrap ((i:Int)+1+1)=(i:Int)+1+1:=IntWalk.i64_in _ (by omega)
     have hwa:=HWA.out k i hli
     have hwt:=HWT.out wr hxwi k i hlt hli
     obtain ⟨wk,hwk⟩:∃ z,z=T.toTr.wt D.l k i:=⟨_,rfl⟩
     rw [←hwk] at hwa hwt
     have HWK:=Lib.hid hwk
     have HAB:=Lib.hid (fun W=>rabs39_any wk W (by omega) (by omega))
     clear hwk hwa
     go_wp2_with fail
     go_at_call 83
     refine hwt.mono ?_
     rintro e w9 ⟨rfl,hx9⟩
     have hx19:=hxi.trans hx9
     have hxw9:=hxwi.trans hx9
     clear hwt
     go_wp2_with fail
     go_at_call 82
     refine (HAB.out w9).mono ?_
     rintro e w10 ⟨rfl,rfl⟩
     by_cases hbig:1<iabs wk
     ·have d4:decide (1<iabs wk)=true:=decide_eq_true hbig
      go_wp2_with fail
      go_ret
      exact ⟨false,rfl,⟨fun h=>(by cases h),fun h=>absurd (h k i hlt hli) (by rw [←HWK.out];omega)⟩,hxw9⟩
     ·have d4:decide (1<iabs wk)=false:=decide_eq_false hbig
      go_wp2_with fail
      go_roundg (T.en k - (i+1))
      case rel=>exact ⟨i+1,by omega,rfl,by go_num,hx19,fun j hj=>by
       by_cases e:j=i
       ·subst e;rw [←HWK.out];omega
       ·exact HA2.out j (by omega)⟩
      case measure=>omega
    ·obtain rfl:i=T.en k:=by omega
     have d3:decide ((T.en k:Int)+1≤(T.en k:Int))=false:=decide_eq_false (by omega)
     go_wp2_with fail
     go_roundg (T.n - (k+1))
     case rel=>exact ⟨k+1,by omega,rfl,by go_num,hxi,fun p z hp hz=>by
      by_cases e:p=k
      ·subst e;exact HA2.out z hz
      ·exact HA.out p z (by omega) hz⟩
     case measure=>omega
  ·obtain rfl:k=T.n:=by omega
   go_wp2_with fail
   go_ret
   exact ⟨true,rfl,⟨fun _=>HA.out,fun _=>rfl⟩,hxw⟩
end Go.Proofs.YtnknkkmdbnaglaaGreat
