/- Contracts and laws in plain Lean for RApp: group W81. -/
import Derived.Test.YtkhgpockmaghjaaGreatW69
import Derived.Test.YtkhgpockmaghjaaGreatW56
import Derived.Test.YtkhgpockmaghjaaGreatW14
import Derived.Test.YtkhgpockmaghjaaGreatW59
namespace Go.Proofs.YtkhgpockmaghjaaGreat
open Go.RowKit Go.Shelf
def Tr.blk (T:Tr) (N:List Syn) (F:List Nat) (p i:Nat):List (Nat ⊕ Ins):=(T.insG N F false (p,i) N.length).map Sum.inr++([Sum.inl i]++(T.insG N F true (p,i) N.length).map Sum.inr)
def Tr.pos (T:Tr) (N:List Syn) (F:List Nat) (p i:Nat):Nat:=(T.apl N F p i).length+(T.insG N F false (p,i) N.length).length
section
variable {T:Tr} {N:List Syn} {F:List Nat} {p:Nat}
theorem apl_blk (T:Tr) (N:List Syn) (F:List Nat) (p i:Nat):T.apl N F p (i+1)=T.apl N F p i++T.blk N F p i:=rfl
theorem blk_len (T:Tr) (N:List Syn) (F:List Nat) (p i:Nat):(T.blk N F p i).length=(T.insG N F false (p,i) N.length).length+1+(T.insG N F true (p,i) N.length).length:=by
 simp [Tr.blk];omega
theorem apl_len1 (T:Tr) (N:List Syn) (F:List Nat) (p i:Nat):(T.apl N F p (i+1)).length=(T.apl N F p i).length+(T.blk N F p i).length:=by rw [apl_blk,List.length_append]
theorem apl_pre:∀ {i n:Nat},i≤n→T.apl N F p i <+: T.apl N F p n
 | i,0,h => by
  obtain rfl:i=0:=by omega
  exact List.prefix_refl _
 | i,n+1,h => by
  by_cases e:i=n+1
  ·subst e;exact List.prefix_refl _
  ·exact (apl_pre (show i≤n by omega)).trans (List.prefix_append _ _)
theorem apl_mono {i n:Nat} (h:i≤n):(T.apl N F p i).length≤(T.apl N F p n).length:=(apl_pre h).length_le
theorem apl_get {i n k:Nat} (hi:i<n) (hk:k<(T.blk N F p i).length):(T.apl N F p n)[(T.apl N F p i).length+k]?=(T.blk N F p i)[k]?:=by
 obtain ⟨r,hr⟩:=apl_pre (T:=T) (N:=N) (F:=F) (p:=p) (show i+1≤n from hi)
 rw [←hr,apl_blk,List.append_assoc,List.getElem?_append_right (by omega),Nat.add_sub_cancel_left,List.getElem?_append_left hk]
theorem apl_at:∀ {n j:Nat},j<(T.apl N F p n).length→∃ i k,i<n∧k<(T.blk N F p i).length∧j=(T.apl N F p i).length+k
 | 0,_,h => absurd h (Nat.not_lt_zero _)
 | n+1,j,h => by
  by_cases e:j<(T.apl N F p n).length
  ·obtain ⟨i,k,h1,h2,h3⟩:=apl_at e
   exact ⟨i,k,by omega,h2,h3⟩
  ·rw [apl_len1] at h
   exact ⟨n,j - (T.apl N F p n).length,Nat.lt_succ_self _,by omega,by omega⟩
theorem apl_uniq {i i' k k':Nat} (hk:k<(T.blk N F p i).length) (hk':k'<(T.blk N F p i').length) (h:(T.apl N F p i).length+k=(T.apl N F p i').length+k'):i=i'∧k=k':=by
 rcases Nat.lt_trichotomy i i' with h1 | h1 | h1
 ·have h2:=apl_mono (T:=T) (N:=N) (F:=F) (p:=p) (show i+1≤i' from h1)
  rw [apl_len1] at h2;omega
 ·subst h1;exact ⟨rfl,by omega⟩
 ·have h2:=apl_mono (T:=T) (N:=N) (F:=F) (p:=p) (show i'+1≤i from h1)
  rw [apl_len1] at h2;omega
theorem pos_lt {i n:Nat} (h:i<n):T.pos N F p i<(T.apl N F p n).length:=by
 have h2:=apl_mono (T:=T) (N:=N) (F:=F) (p:=p) (show i+1≤n from h)
 rw [apl_len1,blk_len] at h2
 unfold Tr.pos;omega
theorem pos_get {i n:Nat} (h:i<n):(T.apl N F p n)[T.pos N F p i]?=some (.inl i):=by
 unfold Tr.pos
 rw [apl_get h (by rw [blk_len];omega)]
 simp [Tr.blk]
theorem pos_mono {i i':Nat} (h:i<i'):T.pos N F p i<T.pos N F p i':=Nat.lt_of_lt_of_le (pos_lt h) (Nat.le_add_right _ _)
theorem pos_lt_iff {i i':Nat}:T.pos N F p i<T.pos N F p i'↔i<i':=by
 constructor
 ·intro h
  rcases Nat.lt_trichotomy i i' with h1 | h1 | h1
  ·exact h1
  ·subst h1;exact absurd h (Nat.lt_irrefl _)
  ·exact absurd (pos_mono (T:=T) (N:=N) (F:=F) (p:=p) h1) (by omega)
 ·exact pos_mono
structure AplOk (T:Tr) (N:List Syn) (F:List Nat):Prop where
 nn:SynOk T N
 ne:∀ s,s∈N→s.1.1≠s.2.1
 fl:N.length≤F.length
 nd:F.Nodup
 fr:∀ m,m∈F→m<200∧T.Free m
 en:∀ q,q<T.n→(T.apl N F q (T.en q)).length≤64
 cyc:T.NoCyc N
theorem insG_get {c:Bool} {z:NN} {m k:Nat} {s:Ins} (hN:SynOk T N) (h:(T.insG N F c z m)[k]?=some s):∃ j x y,j<m∧N[j]?=some (evI x,evI y)∧T.V x∧T.V y∧(bif c then x else y)=z∧s=((bif c then 2 else 3),(bif c then (y.1:Int) else (x.1:Int)),((F.getD j 0:Nat):Int),T.time z.1 z.2):=by
 obtain ⟨j,s',h1,h2,h3,h4⟩:=insG_mem (List.mem_of_getElem? h)
 obtain ⟨x,y,hx,hy,rfl⟩:=hN.nn (List.mem_of_getElem? h2)
 refine ⟨j,x,y,h1,h2,hx,hy,?_,h4⟩
 cases c
 ·exact evI_inj h3
 ·exact evI_inj h3
theorem insG_mono (T:Tr) (N:List Syn) (F:List Nat) (c:Bool) (z:NN):∀ {m n:Nat},m≤n→T.insG N F c z m <+: T.insG N F c z n
 | m,0,h => by
  obtain rfl:m=0:=by omega
  exact List.prefix_refl _
 | m,n+1,h => by
  by_cases e:m=n+1
  ·subst e;exact List.prefix_refl _
  ·exact (insG_mono T N F c z (show m≤n by omega)).trans (List.prefix_append _ _)
theorem ins_ex {j:Nat} {x y:NN} (c:Bool) (hj:N[j]?=some (evI x,evI y)):∃ k:Nat,(T.insG N F c (bif c then x else y) N.length)[k]?=some ((bif c then 2 else 3),(bif c then (y.1:Int) else (x.1:Int)),((F.getD j 0:Nat):Int),T.time (bif c then x else y).1 (bif c then x else y).2):=by
 have hlt:=(List.getElem?_eq_some_iff.1 hj).1
 have h1:=insG_mono T N F c (bif c then x else y) (show j+1≤N.length from hlt)
 have hm:((bif c then (2:Int) else 3),(bif c then (y.1:Int) else (x.1:Int)),((F.getD j 0:Nat):Int),T.time (bif c then x else y).1 (bif c then x else y).2)∈T.insG N F c (bif c then x else y) (j+1):=by
  show _∈T.insG N F c (bif c then x else y) j++_
  rw [hj]
  refine List.mem_append_right _ ?_
  cases c
  ·show _∈(if evI y=evI y then _ else _)
   rw [if_pos rfl];exact List.mem_singleton.2 rfl
  ·show _∈(if evI x=evI x then _ else _)
   rw [if_pos rfl];exact List.mem_singleton.2 rfl
 exact List.getElem?_of_mem (h1.subset hm)
theorem F_inj (hF:F.Nodup) {i j:Nat} (hi:i<F.length) (hj:j<F.length) (h:F.getD i 0=F.getD j 0):i=j:=by
 rw [List.getD_eq_getElem?_getD,List.getD_eq_getElem?_getD,List.getElem?_eq_getElem hi,List.getElem?_eq_getElem hj] at h
 exact (List.getElem_inj hF).1 h
theorem insG_pw (hF:F.Nodup) (c:Bool) (z:NN):∀ m,m≤F.length→(T.insG N F c z m).Pairwise (fun a b=>a.2.2.1≠b.2.2.1)
 | 0,_ => List.Pairwise.nil
 | m+1,h => by
  show (T.insG N F c z m++_).Pairwise _
  rw [List.pairwise_append]
  refine ⟨insG_pw hF c z m (by omega),?_,fun a ha b hb=>?_⟩
  ·cases N[m]? with
   | none => exact List.Pairwise.nil
   | some s => simp only;split <;> simp
  ·obtain ⟨i,s,h1,_,_,rfl⟩:=insG_mem ha
   cases hs:N[m]? with
   | none => rw [hs] at hb;cases hb
   | some s' =>
    rw [hs] at hb
    simp only at hb
    split at hb
    ·rw [List.mem_singleton.1 hb]
     intro e
     have e':((F.getD i 0:Nat):Int)=((F.getD m 0:Nat):Int):=e
     have:=F_inj hF (by omega) (by omega) (by omega:F.getD i 0=F.getD m 0)
     omega
    ·cases hb
theorem insG_inj (hF:F.Nodup) (hl:N.length≤F.length) {c:Bool} {z:NN} {k k':Nat} {s s':Ins} (h:(T.insG N F c z N.length)[k]?=some s) (h':(T.insG N F c z N.length)[k']?=some s') (he:s.2.2.1=s'.2.2.1):k=k':=by
 have hp:=insG_pw (T:=T) (N:=N) hF c z N.length hl
 obtain ⟨l1,e1⟩:=List.getElem?_eq_some_iff.1 h
 obtain ⟨l2,e2⟩:=List.getElem?_eq_some_iff.1 h'
 rw [List.pairwise_iff_getElem] at hp
 rcases Nat.lt_trichotomy k k' with h1 | h1 | h1
 ·have:=hp k k' l1 l2 h1
  rw [e1,e2] at this;exact absurd he this
 ·exact h1
 ·have:=hp k' k l2 l1 h1
  rw [e1,e2] at this;exact absurd he.symm this
structure Ow (T:Tr) (N:List Syn) (F:List Nat) (u:NN) (i k:Nat):Prop where
 hi:i<T.en u.1
 hk:k<(T.blk N F u.1 i).length
 he:u.2=(T.apl N F u.1 i).length+k
theorem Ow.get {u:NN} {i k:Nat} (h:Ow T N F u i k):(T.apl N F u.1 (T.en u.1))[u.2]?=(T.blk N F u.1 i)[k]?:=by rw [h.he];exact apl_get h.hi h.hk
theorem Ow.uniq {u:NN} {i k i' k':Nat} (h:Ow T N F u i k) (h':Ow T N F u i' k'):i=i'∧k=k':=apl_uniq h.hk h'.hk (h.he.symm.trans h'.he)
theorem ow_ex {u:NN} (hu:(T.aplTr N F).V u):∃ i k,Ow T N F u i k:=by
 obtain ⟨i,k,h1,h2,h3⟩:=apl_at hu.2
 exact ⟨i,k,h1,h2,h3⟩
theorem Ow.V {u:NN} {i k:Nat} (h:Ow T N F u i k) (hp:u.1<T.n):(T.aplTr N F).V u:=⟨hp,by
 have h2:=apl_mono (T:=T) (N:=N) (F:=F) (p:=u.1) (show i+1≤T.en u.1 from h.hi)
 rw [apl_len1] at h2
 have:=h.he
 have:=h.hk
 show u.2<(T.apl N F u.1 (T.en u.1)).length
 omega⟩
inductive EvK (T:Tr) (N:List Syn) (F:List Nat) (u:NN) (i k:Nat):Prop
 | own (hk:k=(T.insG N F false (u.1,i) N.length).length) (hu:u.2=T.pos N F u.1 i) (kd:(T.aplTr N F).kind u.1 u.2=T.kind u.1 i) (pe:(T.aplTr N F).peer u.1 u.2=T.peer u.1 i) (ms:(T.aplTr N F).msg u.1 u.2=T.msg u.1 i) (ti:(T.aplTr N F).time u.1 u.2=T.time u.1 i) (an:(T.aplTr N F).an u.1 u.2=T.an u.1 i) (av:(T.aplTr N F).avar u.1 u.2=T.avar u.1 i) (al:(T.aplTr N F).aval u.1 u.2=T.aval u.1 i)
 | ins (c:Bool) (k':Nat) (hk:k=(bif c then (T.insG N F false (u.1,i) N.length).length+1+k' else k')) (j:Nat) (x y:NN) (hj:N[j]?=some (evI x,evI y)) (hx:T.V x) (hy:T.V y) (hz:(bif c then x else y)=(u.1,i)) (s:Ins) (hs:(T.insG N F c (u.1,i) N.length)[k']?=some s)
  (kd:(T.aplTr N F).kind u.1 u.2=(bif c then 2 else 3)) (pe:(T.aplTr N F).peer u.1 u.2=(bif c then (y.1:Int) else (x.1:Int))) (ms:(T.aplTr N F).msg u.1 u.2=((F.getD j 0:Nat):Int)) (hm:s.2.2.1=((F.getD j 0:Nat):Int)) (ti:(T.aplTr N F).time u.1 u.2=T.time u.1 i) (an:(T.aplTr N F).an u.1 u.2=0)
theorem own_k {u:NN} {i:Nat} (hg:(T.apl N F u.1 (T.en u.1))[u.2]?=some (.inl i)):(T.aplTr N F).kind u.1 u.2=T.kind u.1 i∧(T.aplTr N F).peer u.1 u.2=T.peer u.1 i∧(T.aplTr N F).msg u.1 u.2=T.msg u.1 i∧(T.aplTr N F).time u.1 u.2=T.time u.1 i∧(T.aplTr N F).an u.1 u.2=T.an u.1 i∧(T.aplTr N F).avar u.1 u.2=T.avar u.1 i∧(T.aplTr N F).aval u.1 u.2=T.aval u.1 i:=by
 simp only [Tr.aplTr,hg,pickI,and_self]
theorem ins_k {u:NN} {s:Ins} (hg:(T.apl N F u.1 (T.en u.1))[u.2]?=some (.inr s)):(T.aplTr N F).kind u.1 u.2=s.1∧(T.aplTr N F).peer u.1 u.2=s.2.1∧(T.aplTr N F).msg u.1 u.2=s.2.2.1∧(T.aplTr N F).time u.1 u.2=s.2.2.2∧(T.aplTr N F).an u.1 u.2=0:=by
 simp only [Tr.aplTr,hg,pickI,and_self]
theorem blk_ins (c:Bool) {i k':Nat} {s:Ins} (h:(T.insG N F c (p,i) N.length)[k']?=some s):(T.blk N F p i)[(bif c then (T.insG N F false (p,i) N.length).length+1+k' else k')]?=some (.inr s):=by
 have hl:=(List.getElem?_eq_some_iff.1 h).1
 unfold Tr.blk
 cases c
 ·show ((T.insG N F false (p,i) N.length).map Sum.inr++_)[k']?=_
  rw [List.getElem?_append_left (by simpa using hl),List.getElem?_map,h];rfl
 ·show ((T.insG N F false (p,i) N.length).map Sum.inr++([Sum.inl i]++_))[(T.insG N F false (p,i) N.length).length+1+k']?=_
  rw [List.getElem?_append_right (by simp;omega),List.getElem?_append_right (by simp;omega)]
  rw [show (T.insG N F false (p,i) N.length).length+1+k' - ((T.insG N F false (p,i) N.length).map Sum.inr).length - [Sum.inl i].length=k' by simp;omega,List.getElem?_map,h]
  rfl
theorem ow_ins {u:NN} {i k:Nat} (hN:SynOk T N) (h:Ow T N F u i k) (c:Bool) {k':Nat} {s:Ins} (hk:k=(bif c then (T.insG N F false (u.1,i) N.length).length+1+k' else k')) (hs:(T.insG N F c (u.1,i) N.length)[k']?=some s):EvK T N F u i k:=by
 have hg:=h.get
 rw [hk,blk_ins c hs] at hg
 obtain ⟨h1,h2,h3,h4,h5⟩:=ins_k hg
 obtain ⟨j,x,y,_,hj,hx,hy,hz,rfl⟩:=insG_get hN hs
 exact .ins c k' hk j x y hj hx hy hz _ hs h1 h2 h3 rfl h4 h5
theorem Ow.ev {u:NN} {i k:Nat} (hN:SynOk T N) (h:Ow T N F u i k):EvK T N F u i k:=by
 have hk:=h.hk
 rw [blk_len] at hk
 rcases Nat.lt_trichotomy k (T.insG N F false (u.1,i) N.length).length with h1 | h1 | h1
 ·exact ow_ins hN h false (k':=k) rfl (List.getElem?_eq_getElem h1)
 ·have hu:u.2=T.pos N F u.1 i:=by rw [h.he,h1];rfl
  have hg:=pos_get (T:=T) (N:=N) (F:=F) (p:=u.1) h.hi
  rw [←hu] at hg
  obtain ⟨g1,g2,g3,g4,g5,g6,g7⟩:=own_k hg
  exact .own h1 hu g1 g2 g3 g4 g5 g6 g7
 ·exact ow_ins hN h true (k':=k - ((T.insG N F false (u.1,i) N.length).length+1)) (by show k=_+1+_;omega) (List.getElem?_eq_getElem (by omega))
theorem ow_own {x:NN} (hx:T.V x):Ow T N F (x.1,T.pos N F x.1 x.2) x.2 (T.insG N F false x N.length).length:=⟨hx.2,by rw [blk_len];show _<(T.insG N F false x N.length).length+1+_;omega,rfl⟩
theorem ow_sync {j : Nat} {x y : NN} (hx : T.V x) (hy : T.V y) (hj : N[j]? = some (evI x, evI y)) (c : Bool) : ∃ u k, u.1 = (bif c then x else y).1 ∧ Ow T N F u (bif c then x else y).2 k ∧ (T.aplTr N F).kind u.1 u.2 = (bif c then 2 else 3) ∧ (T.aplTr N F).peer u.1 u.2 = (bif c then (y.1 : Int) else (x.1 : Int)) ∧ (T.aplTr N F).msg u.1 u.2 = ((F.getD j 0 : Nat) : Int) ∧
    (if c=true then T.pos N F x.1 x.2<u.2∧u.2<(T.apl N F x.1 (x.2+1)).length else (T.apl N F y.1 y.2).length≤u.2∧u.2<T.pos N F y.1 y.2):=by
 obtain ⟨k',hs⟩:=ins_ex (T:=T) (F:=F) c hj
 have hv:T.V (bif c then x else y):=by
  cases c
  ·exact hy
  ·exact hx
 obtain ⟨z,hz⟩:∃ z,z=(bif c then x else y):=⟨_,rfl⟩
 rw [←hz] at hs hv ⊢
 have hl:=(List.getElem?_eq_some_iff.1 hs).1
 have hb:=blk_ins (T:=T) (N:=N) (F:=F) (p:=z.1) (i:=z.2) c hs
 have hO:Ow T N F (z.1,(T.apl N F z.1 z.2).length+(bif c then (T.insG N F false (z.1,z.2) N.length).length+1+k' else k')) z.2 (bif c then (T.insG N F false (z.1,z.2) N.length).length+1+k' else k'):=⟨hv.2,(List.getElem?_eq_some_iff.1 hb).1,rfl⟩
 obtain ⟨h1,h2,h3,_,_⟩:=ins_k (hO.get.trans hb)
 refine ⟨(z.1,(T.apl N F z.1 z.2).length+(bif c then (T.insG N F false (z.1,z.2) N.length).length+1+k' else k')),_,rfl,hO,h1,h2,h3,?_⟩
 cases c
 ·rw [if_neg (by decide)]
  obtain rfl:z=y:=hz
  refine ⟨Nat.le_add_right _ _,?_⟩
  show (T.apl N F z.1 z.2).length+k'<(T.apl N F z.1 z.2).length+(T.insG N F false z N.length).length
  have:k'<(T.insG N F false z N.length).length:=hl
  omega
 ·rw [if_pos rfl,apl_len1,blk_len]
  obtain rfl:z=x:=hz
  have:k'<(T.insG N F true z N.length).length:=hl
  show (T.apl N F z.1 z.2).length+(T.insG N F false z N.length).length<(T.apl N F z.1 z.2).length+((T.insG N F false z N.length).length+1+k')∧(T.apl N F z.1 z.2).length+((T.insG N F false z N.length).length+1+k')<(T.apl N F z.1 z.2).length+((T.insG N F false z N.length).length+1+(T.insG N F true z N.length).length)
  omega
theorem free_no (hV:T.Valid) {m:Nat} (hm:T.Free m) {x:NN} (hx:T.V x) (hk:T.kind x.1 x.2=2∨T.kind x.1 x.2=3):T.msg x.1 x.2≠m:=by
 intro e
 rcases hk with hk | hk
 ·exact hm ⟨x,hx⟩ ⟨hk,e⟩
 ·have h1:=hV.sndN hx hk
  exact hm ⟨T.sndN x,Tr.sndN_V hx⟩ ⟨h1.1,h1.2.trans e⟩
theorem AplOk.fj (h:AplOk T N F) {j:Nat} (hj:j<N.length):F.getD j 0∈F:=by
 have:=h.fl
 rw [List.getD_eq_getElem?_getD,List.getElem?_eq_getElem (by omega)]
 exact List.getElem_mem _
theorem AplOk.uniq (h:AplOk T N F) (hV:T.Valid) {kd:Int} (hkd:kd=2∨kd=3) {u v:NN} (hu:(T.aplTr N F).V u) (hv:(T.aplTr N F).V v) (k1:(T.aplTr N F).kind u.1 u.2=kd) (k2:(T.aplTr N F).kind v.1 v.2=kd) (hm:(T.aplTr N F).msg u.1 u.2=(T.aplTr N F).msg v.1 v.2):u=v:=by
 obtain ⟨i,k,ho⟩:=ow_ex hu
 obtain ⟨i',k',ho'⟩:=ow_ex hv
 have hVu:T.V (u.1,i):=⟨hu.1,ho.hi⟩
 have hVv:T.V (v.1,i'):=⟨hv.1,ho'.hi⟩
 rcases ho.ev h.nn with ⟨hk,hu2,kd1,_,ms1,_⟩ | ⟨c,a,hk,j,x,y,hj,hx,hy,hz,s,hs,kd1,_,ms1,hsm,_⟩ <;> rcases ho'.ev h.nn with ⟨hk',hv2,kd2,_,ms2,_⟩ | ⟨c',a',hk',j',x',y',hj',hx',hy',hz',s',hs',kd2,_,ms2,hsm',_⟩
 ·have e : (⟨(u.1, i), hVu⟩ : T.Id) = ⟨(v.1, i'), hVv⟩ := by
    rcases hkd with rfl | rfl
    ·exact hV.uniq2 (kd1.symm.trans k1) (kd2.symm.trans k2) (ms1.symm.trans (hm.trans ms2))
    ·exact hV.uniq3 (kd1.symm.trans k1) (kd2.symm.trans k2) (ms1.symm.trans (hm.trans ms2))
  have e':(u.1,i)=(v.1,i'):=congrArg Subtype.val e
  obtain ⟨e1,e2⟩:=Prod.mk.inj e'
  exact Prod.ext e1 (by rw [hu2,hv2,e1,e2])
 ·exact absurd (ms1.symm.trans (hm.trans ms2)) (free_no hV (h.fr _ (h.fj (List.getElem?_eq_some_iff.1 hj').1)).2 hVu (by rw [←kd1,k1];exact hkd))
 ·exact absurd (ms2.symm.trans (hm.symm.trans ms1)) (free_no hV (h.fr _ (h.fj (List.getElem?_eq_some_iff.1 hj).1)).2 hVv (by rw [←kd2,k2];exact hkd))
 ·have l1:=(List.getElem?_eq_some_iff.1 hj).1
  have l2:=(List.getElem?_eq_some_iff.1 hj').1
  have hfl:=h.fl
  have e0:((F.getD j 0:Nat):Int)=((F.getD j' 0:Nat):Int):=ms1.symm.trans (hm.trans ms2)
  obtain rfl:=F_inj h.nd (by omega) (by omega) (by omega:F.getD j 0=F.getD j' 0)
  have e1:(evI x,evI y)=(evI x',evI y'):=Option.some.inj (hj.symm.trans hj')
  obtain rfl:=evI_inj (Prod.mk.inj e1).1
  obtain rfl:=evI_inj (Prod.mk.inj e1).2
  obtain rfl:c=c':=by
   have:(bif c then (2:Int) else 3)=(bif c' then 2 else 3):=kd1.symm.trans (k1.trans (k2.symm.trans kd2))
   cases c <;> cases c' <;> first | rfl | (simp at this)
  have e2:(u.1,i)=(v.1,i'):=hz.symm.trans hz'
  obtain ⟨e3,rfl⟩:=Prod.mk.inj e2
  rw [←e3] at hs'
  obtain rfl:=insG_inj h.nd h.fl hs hs' (hsm.trans hsm'.symm)
  refine Prod.ext e3 ?_
  rw [ho.he,ho'.he,hk,hk',e3]
theorem AplOk.formed (h:AplOk T N F) (hV:T.Valid):(T.aplTr N F).Formed:=by
 rintro ⟨u,hu⟩
 obtain ⟨i,k,ho⟩:=ow_ex hu
 have hVu:T.V (u.1,i):=⟨hu.1,ho.hi⟩
 show FormedP (T.aplTr N F) u.1 ((T.aplTr N F).kind u.1 u.2) ((T.aplTr N F).peer u.1 u.2) ((T.aplTr N F).msg u.1 u.2)
 rcases ho.ev h.nn with ⟨_,_,kd,pe,ms,_⟩ | ⟨c,a,hk,j,x,y,hj,hx,hy,hz,s,hs,kd,pe,ms,hsm,_⟩
 ·rw [kd,pe,ms];exact hV.formed ⟨(u.1,i),hVu⟩
 ·have hne:=h.ne _ (List.mem_of_getElem? hj)
  have hf:=(h.fr _ (h.fj (List.getElem?_eq_some_iff.1 hj).1)).1
  have hne':x.1≠y.1:=fun e=>hne (by show (x.1:Int)=(y.1:Int);rw [e])
  have hxn:=hx.1
  have hyn:=hy.1
  rw [kd,pe,ms]
  right
  cases c
  ·have hz1:y.1=u.1:=(Prod.mk.inj (show (y.1,y.2)=(u.1,i) from hz)).1
   exact ⟨.inr rfl,show (0:Int)≤(x.1:Int) by omega,show (x.1:Int)≤(T.n:Int) - 1 by omega,show (x.1:Int)≠(u.1:Nat) by omega,by omega,by omega⟩
  ·have hz1:x.1=u.1:=(Prod.mk.inj (show (x.1,x.2)=(u.1,i) from hz)).1
   exact ⟨.inl rfl,show (0:Int)≤(y.1:Int) by omega,show (y.1:Int)≤(T.n:Int) - 1 by omega,show (y.1:Int)≠(u.1:Nat) by omega,by omega,by omega⟩
theorem AplOk.sends (h:AplOk T N F) (hV:T.Valid) {u:NN} (hu:(T.aplTr N F).V u) (k3:(T.aplTr N F).kind u.1 u.2=3):(T.aplTr N F).sendsB ((T.aplTr N F).peer u.1 u.2).toNat ((T.aplTr N F).msg u.1 u.2) u.1=true:=by
 obtain ⟨i,k,ho⟩:=ow_ex hu
 have hVu:T.V (u.1,i):=⟨hu.1,ho.hi⟩
 rcases ho.ev h.nn with ⟨_,_,kd,pe,ms,_⟩ | ⟨c,a,hk,j,x,y,hj,hx,hy,hz,s,hs,kd,pe,ms,hsm,_⟩
 ·obtain ⟨a,b,e⟩:=List.append_of_mem (evs_all (⟨(u.1,i),hVu⟩:T.Id))
  have hs:=((hV.msg a ⟨(u.1,i),hVu⟩ ⟨b,by rw [e];simp⟩).2 (kd.symm.trans k3)).2
  obtain ⟨i0,hi0,hp⟩:=anyB_iff.1 hs
  simp only [Bool.and_eq_true,decide_eq_true_eq] at hp
  rw [pe,ms]
  have hpe:(T.peer u.1 i).toNat<T.n:=by rcases hV.formed ⟨(u.1,i),hVu⟩ with h | h <;> simp only at h <;> omega
  refine anyB_iff.2 ⟨T.pos N F (T.peer u.1 i).toNat i0,pos_lt hi0,?_⟩
  have hg1:=own_k (u:=((T.peer u.1 i).toNat,T.pos N F (T.peer u.1 i).toNat i0)) (pos_get (T:=T) (N:=N) (F:=F) (p:=(T.peer u.1 i).toNat) hi0)
  simp only at hg1
  simp only [Bool.and_eq_true,decide_eq_true_eq]
  rw [hg1.1,hg1.2.1,hg1.2.2.1]
  exact hp
 ·obtain rfl : c = false := by
    cases c
    ·rfl
    ·rw [kd] at k3;exact absurd k3 (by decide)
  obtain ⟨v,k2,hv1,hO,g1,g2,g3,_⟩:=ow_sync (T:=T) (N:=N) (F:=F) hx hy hj true
  simp only [cond_true,cond_false] at hv1 hO g1 g2 pe hz
  rw [pe,ms,Int.toNat_natCast,←hv1]
  refine anyB_iff.2 ⟨v.2,(hO.V (by rw [hv1];exact hx.1)).2,?_⟩
  simp only [Bool.and_eq_true,decide_eq_true_eq]
  exact ⟨⟨g1,g3⟩,by rw [g2,hz]⟩
theorem AplOk.msg (h:AplOk T N F) (hV:T.Valid):(T.aplTr N F).OkList (T.aplTr N F).evs:=by
 have hF:=h.formed hV
 have key:∀ k,k≤T.n→∀ i,(k<T.n→i≤(T.aplTr N F).en k)→(k=T.n→i=0)→(T.aplTr N F).OkList ((T.aplTr N F).evsTo k i):=by
  intro k
  induction k with
  | zero =>
   intro h0 i
   induction i with
   | zero =>
    intro _ _ pre x hp
    have:=hp.length_le
    simp [Tr.evsTo] at this
   | succ i ih =>
       intro h1 h2
       have hk:0<T.n:=Nat.pos_of_ne_zero fun e=>by have:=h2 e.symm;omega
       have hi:=h1 hk
       rw [(T.aplTr N F).evsTo_succ 0 i hk (by omega)]
       exact (ih (fun _=>by omega) (fun e=>by omega)).snoc (noFault h hV hF ⟨(0,i),hk,by show i<(T.aplTr N F).en 0;omega⟩)
  | succ k ihk =>
   intro h0 i
   induction i with
   | zero =>
       intro _ _
       rw [←(T.aplTr N F).evsTo_next]
       exact ihk (by omega) _ (fun _=>Nat.le_refl _) (fun e=>by omega)
   | succ i ih =>
       intro h1 h2
       have hk:k+1<T.n:=Nat.lt_of_le_of_ne h0 fun e=>by have:=h2 e;omega
       have hi:=h1 hk
       rw [(T.aplTr N F).evsTo_succ (k+1) i hk (by omega)]
       exact (ih (fun _=>by omega) (fun e=>by omega)).snoc (noFault h hV hF ⟨(k+1,i),hk,by show i<(T.aplTr N F).en (k+1);omega⟩)
 exact key T.n (Nat.le_refl _) 0 (fun h=>absurd h (Nat.lt_irrefl _)) (fun _=>rfl)
where
 noFault (h:AplOk T N F) (hV:T.Valid) (hF:(T.aplTr N F).Formed) (x:(T.aplTr N F).Id):(T.aplTr N F).NoFault ((T.aplTr N F).evsTo x.1.1 x.1.2) x:=by
  have no:∀ y∈(T.aplTr N F).evsTo x.1.1 x.1.2,y.1≠x.1:=fun y hy e=>by
   rcases Tr.evsTo_mem hy with h1 | h1
   ·rw [e] at h1;omega
   ·rw [e] at h1;omega
  refine ⟨fun k2=>(fi_iff hF _ x).2 fun y hy ⟨h1,h2⟩=>no y hy (h.uniq hV (.inl rfl) y.2 x.2 h1 k2 h2),fun k3=>⟨(ti_iff hF _ x).2 fun y hy ⟨h1,h2⟩=>no y hy (h.uniq hV (.inr rfl) y.2 x.2 h1 k3 h2),h.sends hV x.2 k3⟩⟩
end
end Go.Proofs.YtkhgpockmaghjaaGreat

namespace Go.Proofs.YtkhgpockmaghjaaGreat
open Go.RowKit Go.Shelf
section
variable {T:Tr} {N:List Syn} {F:List Nat} {p:Nat}
theorem ow_prev {u:NN} {i k:Nat} (h:Ow T N F u i k) (h0:0<u.2):∃ i' k',Ow T N F (u.1,u.2 - 1) i' k'∧(i'=i∨i'+1=i):=by
 have h1:=h.hi
 have h2:=h.hk
 have h3:=h.he
 by_cases hk:0<k
 ·exact ⟨i,k - 1,⟨h1,by show k - 1<(T.blk N F u.1 i).length;omega,by show u.2 - 1=(T.apl N F u.1 i).length+_;omega⟩,.inl rfl⟩
 ·cases i with
  | zero =>
   have:(T.apl N F u.1 0).length=0:=rfl
   omega
  | succ i =>
   rw [apl_len1] at h3
   have h4:=blk_len T N F u.1 i
   exact ⟨i,(T.blk N F u.1 i).length - 1,⟨by show i<T.en u.1;omega,by show _<(T.blk N F u.1 i).length;omega,by show u.2 - 1=(T.apl N F u.1 i).length+_;omega⟩,.inr rfl⟩
theorem EvK.time {u:NN} {i k:Nat} (h:EvK T N F u i k):(T.aplTr N F).time u.1 u.2=T.time u.1 i:=by
 cases h with
 | own _ _ _ _ _ ti => exact ti
 | ins _ _ _ _ _ _ _ _ _ _ _ _ _ _ _ _ ti => exact ti
theorem AplOk.evOk (h:AplOk T N F) (hV:T.Valid) {u:NN} (hu:(T.aplTr N F).V u):(T.aplTr N F).EvOk u.1 u.2:=by
 obtain ⟨i,k,ho⟩:=ow_ex hu
 have hE:=ho.ev h.nn
 have hT:=hV.ev u.1 i hu.1 ho.hi
 have ht:=hE.time
 refine ⟨h.formed hV ⟨u,hu⟩,by rw [ht];exact hT.2.1,?_,?_,?_⟩
 ·rw [ht]
  unfold Tr.last
  by_cases h0:u.2=0
  ·rw [if_pos h0]
   have:=hT.2.1
   unfold inB at this
   rw [Bool.and_eq_true] at this
   exact of_decide_eq_true this.1
  ·rw [if_neg h0]
   obtain ⟨i',k',ho',hi⟩:=ow_prev ho (by omega)
   have ht':=(ho'.ev h.nn).time
   simp only at ht'
   rw [ht']
   rcases hi with rfl | rfl
   ·exact Int.le_refl _
   ·have:=hT.2.2.1
    unfold Tr.last at this
    rw [if_neg (by omega)] at this
    exact this
 ·rcases hE with ⟨_,_,_,_,_,_,an,_⟩ | ⟨_,_,_,_,_,_,_,_,_,_,_,_,_,_,_,_,_,an⟩
  ·rw [an];exact hT.2.2.2.1
  ·rw [an];omega
 ·intro j hj
  rcases hE with ⟨_,_,_,_,_,_,an,av,al⟩ | ⟨_,_,_,_,_,_,_,_,_,_,_,_,_,_,_,_,_,an⟩
  ·rw [an] at hj
   have:=hT.2.2.2.2 j hj
   unfold Tr.AsgOk at this ⊢
   rw [av,al]
   exact this
  ·rw [an] at hj;omega
theorem AplOk.step (h : AplOk T N F) (hV : T.Valid) {u v : NN} (hu : (T.aplTr N F).V u) (hv : v ∈ (T.aplTr N F).succ (Ltr.of (T.aplTr N F) (T.aplTr N F).evs) u) {i k i' k' : Nat} (ho : Ow T N F u i k) (ho' : Ow T N F v i' k') :
    ((u.1,i)=(v.1,i')∧u.2<v.2)∨(v.1,i')∈T.gr N (u.1,i):=by
 have hF:=h.formed hV
 have hVu:T.V (u.1,i):=⟨hu.1,ho.hi⟩
 unfold Tr.succ at hv
 rcases List.mem_append.1 hv with hv | hv
 ·split at hv
  ·obtain rfl:=List.mem_singleton.1 hv
   obtain ⟨i2,k2,ho2,hi⟩:=ow_prev ho' (Nat.succ_pos _)
   obtain rfl:=(ho.uniq ho2).1
   rcases hi with rfl | rfl
   ·exact .inl ⟨rfl,Nat.lt_succ_self _⟩
   ·refine .inr ((mem_gr h.nn).2 (.inl ?_))
    have:i+1<T.en u.1:=ho'.hi
    unfold Tr.fw Tr.succ
    rw [if_pos this]
    exact List.mem_append_left _ (List.mem_singleton.2 rfl)
  ·cases hv
 ·split at hv
  ·next h0=>
   obtain ⟨k2,hpos⟩:=h0
   rcases Ltr.of_from (T.aplTr N F).evs Ltr.zero ((T.aplTr N F).msg u.1 u.2).toNat with ⟨h1,_⟩ | ⟨z,_,k3,hm,h1,h2⟩
   ·have h1':(Ltr.of (T.aplTr N F) (T.aplTr N F).evs).ti ((T.aplTr N F).msg u.1 u.2).toNat=Ltr.zero.ti ((T.aplTr N F).msg u.1 u.2).toNat:=h1
    rw [h1'] at hpos
    exact absurd hpos (by simp [Ltr.zero])
   ·have h1':(Ltr.of (T.aplTr N F) (T.aplTr N F).evs).tp ((T.aplTr N F).msg u.1 u.2).toNat=z.1.1:=h1
    have h2':(Ltr.of (T.aplTr N F) (T.aplTr N F).evs).ti ((T.aplTr N F).msg u.1 u.2).toNat=z.1.2+1:=h2
    rw [h1',h2'] at hv
    have hvz:v=z.1:=by
     rw [List.mem_singleton.1 hv]
     exact Prod.ext (by simp) (by simp)
    subst hvz
    have hmm:(T.aplTr N F).msg z.1.1 z.1.2=(T.aplTr N F).msg u.1 u.2:=by
     have e1:=hF.nat z
     have e2:=hF.nat ⟨u,hu⟩
     simp only at e2
     omega
    have hVz:T.V (z.1.1,i'):=⟨z.2.1,ho'.hi⟩
    right
    refine (mem_gr h.nn).2 ?_
    rcases ho.ev h.nn with ⟨_,_,kd1,_,ms1,_⟩ | ⟨c,a,hk,j,x,y,hj,hx,hy,hz,s,hs,kd1,_,ms1,_⟩ <;> rcases ho'.ev h.nn with ⟨_,_,kd2,_,ms2,_⟩ | ⟨c',a',hk',j',x',y',hj',hx',hy',hz',s',hs',kd2,_,ms2,_⟩
    ·left
     have k3':T.kind z.1.1 i'=3:=kd2.symm.trans k3
     refine hV.dir_succ hVz (.inr ⟨k3',?_⟩)
     have h3:=hV.sndN hVz k3'
     have e:=hV.uniq2 (x:=⟨(u.1,i),hVu⟩) (y:=⟨T.sndN (z.1.1,i'),Tr.sndN_V hVz⟩) (kd1.symm.trans k2) h3.1 ((ms1.symm.trans (hmm.symm.trans ms2)).trans h3.2.symm)
     exact congrArg Subtype.val e
    ·exact absurd (ms1.symm.trans (hmm.symm.trans ms2)) (free_no hV (h.fr _ (h.fj (List.getElem?_eq_some_iff.1 hj').1)).2 hVu (.inl (kd1.symm.trans k2)))
    ·exact absurd (ms2.symm.trans (hmm.trans ms1)) (free_no hV (h.fr _ (h.fj (List.getElem?_eq_some_iff.1 hj).1)).2 hVz (.inr (kd2.symm.trans k3)))
    ·right
     have l1:=(List.getElem?_eq_some_iff.1 hj).1
     have l2:=(List.getElem?_eq_some_iff.1 hj').1
     have hfl:=h.fl
     have e0:((F.getD j 0:Nat):Int)=((F.getD j' 0:Nat):Int):=ms1.symm.trans (hmm.symm.trans ms2)
     obtain rfl:=F_inj h.nd (by omega) (by omega) (by omega:F.getD j 0=F.getD j' 0)
     have e1:(evI x,evI y)=(evI x',evI y'):=Option.some.inj (hj.symm.trans hj')
     obtain rfl:=evI_inj (Prod.mk.inj e1).1
     obtain rfl:=evI_inj (Prod.mk.inj e1).2
     have c1:c=true:=by
      cases c
      ·exact absurd (kd1.symm.trans k2) (by decide)
      ·rfl
     have c2:c'=false:=by
      cases c'
      ·rfl
      ·exact absurd (kd2.symm.trans k3) (by decide)
     subst c1 c2
     have e3:x=(u.1,i):=hz
     have e4:y=(z.1.1,i'):=hz'
     rw [←e3,←e4]
     exact List.mem_of_getElem? hj
  ·cases hv
theorem AplOk.path (h : AplOk T N F) (hV : T.Valid) : ∀ (n : Nat) {u v : NN} {i k i' k' : Nat}, (T.aplTr N F).V u → PathN ((T.aplTr N F).succ (Ltr.of (T.aplTr N F) (T.aplTr N F).evs)) n u v → Ow T N F u i k → Ow T N F v i' k' →
    ((u.1,i)=(v.1,i')∧u.2<v.2)∨Path (T.gr N) (u.1,i) (v.1,i')
 | 0,u,v,i,k,i',k',hu,hp,ho,ho' => (h.step hV hu hp ho ho').imp id Path.one
 | n+1,u,v,i,k,i',k',hu,⟨z,hz,hp⟩,ho,ho' => by
  have hVz:=succ_valid (Ltr.of_ok (T.aplTr N F) (T.aplTr N F).evs) hu (h.formed hV ⟨u,hu⟩) z hz
  obtain ⟨i2,k2,ho2⟩:=ow_ex hVz
  rcases h.step hV hu hz ho ho2 with ⟨h1,h2⟩ | h1 <;> rcases h.path hV n hVz hp ho2 ho' with ⟨h3,h4⟩ | h3
  ·exact .inl ⟨h1.trans h3,by omega⟩
  ·rw [h1];exact .inr h3
  ·rw [←h3];exact .inr (Path.one h1)
  ·exact .inr (Path.cons h1 h3)
theorem AplOk.valid (h:AplOk T N F) (hV:T.Valid):(T.aplTr N F).Valid:=by
 refine ⟨hV.n1,hV.n8,fun k hk=>?_,fun k i hk hi=>h.evOk hV (u:=(k,i)) ⟨hk,hi⟩,h.msg hV,?_⟩
 ·obtain ⟨a,b,c,d,_⟩:=hV.pr k hk
  exact ⟨a,b,c,d,h.en k hk⟩
 ·rintro ⟨x,n,hp⟩
  obtain ⟨i,k,ho⟩:=ow_ex x.2
  rcases h.path hV n x.2 hp ho ho with ⟨_,h1⟩ | h1
  ·exact absurd h1 (Nat.lt_irrefl _)
  ·exact h.cyc (x.1.1,i) ⟨x.2.1,ho.hi⟩ h1
open Classical in
noncomputable def Tr.prj (T:Tr) (N:List Syn) (F:List Nat) (p:Nat):Nat→Nat
 | 0 => 0
 | m+1 => T.prj N F p m+if ∃ i,i<T.en p∧T.pos N F p i=m then 1 else 0
theorem prj_lt:∀ (m i:Nat),i<T.prj N F p m↔i<T.en p∧T.pos N F p i<m
 | 0,i => by simp [Tr.prj]
 | m+1,i => by
  have ih:=prj_lt m
  unfold Tr.prj
  by_cases h:∃ i,i<T.en p∧T.pos N F p i=m
  ·rw [if_pos h]
   obtain ⟨i0,h1,h2⟩:=h
   have e:T.prj N F p m=i0:=by
    rcases Nat.lt_trichotomy (T.prj N F p m) i0 with h3 | h3 | h3
    ·have h4:=pos_mono (T:=T) (N:=N) (F:=F) (p:=p) h3
     have:=(ih (T.prj N F p m)).2 ⟨by omega,by omega⟩
     omega
    ·exact h3
    ·have:=(ih i0).1 h3
     omega
   rw [e]
   have h5:=pos_lt_iff (T:=T) (N:=N) (F:=F) (p:=p) (i:=i0) (i':=i)
   rw [h2] at h5
   constructor
   ·intro h3
    refine ⟨by omega,?_⟩
    refine Nat.lt_succ_of_le (Nat.le_of_not_lt fun h6=>?_)
    have:=h5.1 h6;omega
   ·rintro ⟨_,h3⟩
    refine Nat.lt_succ_of_le (Nat.le_of_not_lt fun h6=>?_)
    have:=h5.2 h6;omega
  ·rw [if_neg h,Nat.add_zero,ih]
   constructor
   ·exact fun ⟨h1,h2⟩=>⟨h1,by omega⟩
   ·exact fun ⟨h1,h2⟩=>⟨h1,Nat.lt_of_le_of_ne (Nat.le_of_lt_succ h2) fun e=>h ⟨i,h1,e⟩⟩
theorem prj_le (m:Nat):T.prj N F p m≤T.en p:=Nat.le_of_not_lt fun h=>absurd ((prj_lt m (T.en p)).1 h).1 (Nat.lt_irrefl _)
theorem pos_apl {i j:Nat}:T.pos N F p j<(T.apl N F p i).length↔j<i:=by
 constructor
 ·intro h
  refine Nat.lt_of_not_le fun h1=>?_
  have h2:=apl_mono (T:=T) (N:=N) (F:=F) (p:=p) h1
  unfold Tr.pos at h;omega
 ·exact pos_lt
theorem prj_apl {i:Nat} (hi:i≤T.en p):T.prj N F p (T.apl N F p i).length=i:=by
 have h:=prj_lt (T:=T) (N:=N) (F:=F) (p:=p) (T.apl N F p i).length
 rcases Nat.lt_trichotomy (T.prj N F p (T.apl N F p i).length) i with h1 | h1 | h1
 ·have:=(h (T.prj N F p (T.apl N F p i).length)).2 ⟨by omega,pos_apl.2 h1⟩
  omega
 ·exact h1
 ·have:=(h i).1 h1
  have:=pos_apl.1 this.2
  omega
theorem sndN_is {U:Tr} (hU:U.Valid) {u s:NN} (hu:U.V u) (hs:U.V s) (k3:U.kind u.1 u.2=3) (k2:U.kind s.1 s.2=2) (hm:U.msg s.1 s.2=U.msg u.1 u.2):U.sndN u=s:=by
 have h1:=U.sndN_eq ⟨u,hu⟩
 simp only at h1
 rw [h1,hU.snd_eq (x:=⟨u,hu⟩) (y:=⟨s,hs⟩) ⟨k3,k2,hm⟩]
theorem AplOk.snd_own (h:AplOk T N F) (hV:T.Valid) {x:NN} (hx:T.V x) (k3:T.kind x.1 x.2=3):(T.aplTr N F).sndN (x.1,T.pos N F x.1 x.2)=((T.sndN x).1,T.pos N F (T.sndN x).1 (T.sndN x).2):=by
 have hy:=Tr.sndN_V hx
 have h1:=hV.sndN hx k3
 obtain ⟨g1,_,g3,_⟩:=own_k (u:=(x.1,T.pos N F x.1 x.2)) (pos_get hx.2)
 obtain ⟨f1,_,f3,_⟩:=own_k (u:=((T.sndN x).1,T.pos N F (T.sndN x).1 (T.sndN x).2)) (pos_get hy.2)
 exact sndN_is (h.valid hV) (Ow.V (ow_own hx) hx.1) (Ow.V (ow_own hy) hy.1) (g1.trans k3) (f1.trans h1.1) (f3.trans (h1.2.trans g3.symm))
theorem AplOk.prj_cut (h:AplOk T N F) (hV:T.Valid) {d:Nat→Nat} (hd:(T.aplTr N F).CutOk d):PCut T N fun p=>T.prj N F p (d p):=by
 refine ⟨⟨fun p _=>prj_le _,fun x hx hin k3=>?_⟩,(per_iff h.nn).2 fun x y hs hy=>?_⟩
 ·have h1:=(prj_lt _ _).1 hin
  obtain ⟨g1,_⟩:=own_k (u:=(x.1,T.pos N F x.1 x.2)) (pos_get hx.2)
  have h2:=hd.cl (x.1,T.pos N F x.1 x.2) (Ow.V (ow_own hx) hx.1) h1.2 (g1.trans k3)
  rw [h.snd_own hV hx k3] at h2
  exact (prj_lt _ _).2 ⟨(Tr.sndN_V hx).2,h2⟩
 ·obtain ⟨j,hj,hjs⟩:=List.getElem_of_mem hs
  have hj':N[j]?=some (evI x,evI y):=by rw [List.getElem?_eq_getElem hj,hjs]
  obtain ⟨k1,k2⟩:=h.nn _ hs
  have hx:T.V x:=by have:=k1.V.1;rwa [nnOf_evI] at this
  have hyV:T.V y:=by have:=k2.V.1;rwa [nnOf_evI] at this
  have h1:=(prj_lt _ _).1 hy
  obtain ⟨r,kr,r1,hr,rk,_,rm,rp⟩:=ow_sync (T:=T) (N:=N) (F:=F) hx hyV hj' false
  obtain ⟨s,ks,s1,hsO,sk,_,sm,sp⟩:=ow_sync (T:=T) (N:=N) (F:=F) hx hyV hj' true
  rw [if_neg (by decide)] at rp
  rw [if_pos rfl] at sp
  simp only [cond_true,cond_false] at r1 hr rk s1 hsO sk
  have hVr:=hr.V (by rw [r1];exact hyV.1)
  have h2:=hd.cl r hVr (by rw [r1];omega) rk
  rw [sndN_is (h.valid hV) hVr (hsO.V (by rw [s1];exact hx.1)) rk sk (sm.trans rm.symm),s1] at h2
  exact (prj_lt _ _).2 ⟨hx.2,by omega⟩
theorem AplOk.apl_cut (h:AplOk T N F) (hV:T.Valid) {c:Nat→Nat} (hc:PCut T N c):(T.aplTr N F).CutOk fun p=>(T.apl N F p (c p)).length:=by
 refine ⟨fun p hp=>apl_mono (hc.cut.le p hp),fun u hu hin k3=>?_⟩
 obtain ⟨i,k,ho⟩:=ow_ex hu
 have hVu:T.V (u.1,i):=⟨hu.1,ho.hi⟩
 have hic:i<c u.1:=Nat.lt_of_not_le fun h1=>by
  have h2:=apl_mono (T:=T) (N:=N) (F:=F) (p:=u.1) h1
  have h3:=ho.he
  have h4:u.2<(T.apl N F u.1 (c u.1)).length:=hin
  omega
 show ((T.aplTr N F).sndN u).2<(T.apl N F ((T.aplTr N F).sndN u).1 (c ((T.aplTr N F).sndN u).1)).length
 rcases ho.ev h.nn with ⟨_,hu2,kd,_⟩ | ⟨b,a,hk,j,x,y,hj,hx,hy,hz,s,hs,kd,_,ms,_⟩
 ·have k3':=kd.symm.trans k3
  have e:u=(u.1,T.pos N F u.1 i):=Prod.ext rfl hu2
  have h1:=hc.cut.cl (u.1,i) hVu hic k3'
  have h2:=h.snd_own hV hVu k3'
  simp only at h2
  rw [e,h2]
  exact pos_apl.2 h1
 ·have hb : b = false := by
    cases b
    ·rfl
    ·exact absurd (kd.symm.trans k3) (by decide)
  subst hb
  have hz':y=(u.1,i):=hz
  have h1:=(per_iff h.nn).1 hc.per x y (List.mem_of_getElem? hj) (by rw [hz'];exact hic)
  obtain ⟨v,ks,s1,hsO,sk,_,sm,sp⟩:=ow_sync (T:=T) (N:=N) (F:=F) hx hy hj true
  rw [if_pos rfl] at sp
  simp only [cond_true] at s1 hsO sk
  rw [sndN_is (h.valid hV) hu (hsO.V (by rw [s1];exact hx.1)) k3 sk (sm.trans ms.symm),s1]
  exact Nat.lt_of_lt_of_le sp.2 (apl_mono (show x.2+1≤c x.1 from h1))
end
end Go.Proofs.YtkhgpockmaghjaaGreat

namespace Go.Proofs.YtkhgpockmaghjaaGreat
open Go.RowKit Go.Shelf
theorem gr_next {T:Tr} {L:List Syn} {p i:Nat} (h:i+1<T.en p):(p,i+1)∈T.gr L (p,i):=by
 unfold Tr.gr Tr.fw Tr.succ
 rw [if_pos (show (p,i).2+1<T.en (p,i).1 from h)]
 exact List.mem_append_left _ (List.mem_append_left _ (List.mem_singleton.2 rfl))
theorem proc_path {T:Tr} {L:List Syn} {p i:Nat}:∀ {k:Nat},i+k+1<T.en p→Path (T.gr L) (p,i) (p,i+k+1)
 | 0,h => Path.one (gr_next h)
 | k+1,h => (proc_path (k:=k) (by omega)).snoc (gr_next (show i+k+1+1<T.en p by omega))
theorem proc_path' {T:Tr} {L:List Syn} {p i j:Nat} (h:i<j) (hj:j<T.en p):Path (T.gr L) (p,i) (p,j):=by
 have h1:=proc_path (T:=T) (L:=L) (p:=p) (i:=i) (k:=j - i - 1) (by omega)
 rw [show i+(j - i - 1)+1=j by omega] at h1
 exact h1
theorem ndL_ne {T:Tr} {L:List Syn} (hL:SynOk T L) (hA:T.NoCyc L):∀ s,s∈T.ndL L L.length→s.1.1≠s.2.1:=by
 intro s hs e
 have hsL:=ndL_sub hs
 obtain ⟨⟨px,ix⟩,⟨py,iy⟩,hx,hy,rfl⟩:=hL.nn hsL
 obtain ⟨j,hj,⟨s',h1,h2,h3,_⟩,h4⟩:=mem_ndL.1 hs
 obtain rfl:=Option.some.inj (h1.symm.trans h4)
 simp only [nnOf_evI] at h2 h3
 have e':(px:Int)=(py:Int):=e
 obtain rfl:px=py:=by omega
 have hxi:ix<T.en px:=hx.2
 have hyi:iy<T.en px:=hy.2
 rcases Nat.lt_trichotomy ix iy with h5 | h5 | h5
 ·by_cases h6:iy=ix+1
  ·subst h6
   refine h2 ?_
   unfold Tr.fw Tr.succ
   rw [if_pos (show (px,ix).2+1<T.en (px,ix).1 from hyi)]
   exact List.mem_append_left _ (List.mem_singleton.2 rfl)
  ·refine h3 ⟨(px,ix+1),List.mem_filter.2 ⟨gr_next (by omega),?_⟩,.inr (proc_path' (by omega) hyi)⟩
   simp;omega
 ·subst h5
  exact hA (px,ix) hx (Path.one ((mem_gr hL).2 (.inr hsL)))
 ·exact hA (px,ix) hx (Path.cons ((mem_gr hL).2 (.inr hsL)) (proc_path' h5 hxi))
theorem freeL_nodup (T:Tr):∀ k,(T.freeL k).Nodup
 | 0 => by simp [Tr.freeL]
 | k+1 => by
  unfold Tr.freeL
  rw [List.nodup_append]
  refine ⟨freeL_nodup T k,by split <;> simp,fun a ha b hb e=>?_⟩
  have h1:=(freeL_mem.1 ha).1
  split at hb
  ·simp at hb;omega
  ·cases hb
theorem aplOk_of {T:Tr} {L:List Syn} (hL:SynOk T L) (hA:T.NoCyc L) (hB:¬T.AplBig (T.ndL L L.length) (T.freeL 200)):AplOk T (T.ndL L L.length) (T.freeL 200):=
 ⟨hL.mono fun _ hs=>ndL_sub hs,ndL_ne hL hA,Nat.le_of_not_lt fun h=>hB (.inl h),freeL_nodup T 200,fun _ hm=>freeL_mem.1 hm,fun q hq=>Nat.le_of_not_lt fun h=>hB (.inr ⟨q,hq,h⟩),NoCyc.mono hL (fun _ hs=>ndL_sub hs) hA⟩
def boxL (e:Nat→Nat):Nat→List (List Nat)
 | 0 => [[]]
 | k+1 => (boxL e k).flatMap fun l => (List.range (e k+1)).map fun j => l++[j]
theorem boxL_len (e:Nat→Nat):∀ k,(boxL e k).length≤2 ^ tot e k
 | 0 => Nat.le_refl _
 | k+1 => by
  have ih:=boxL_len e k
  have h:∀ l:List (List Nat),(l.flatMap fun l=>(List.range (e k+1)).map fun j=>l++[j]).length=l.length*(e k+1):=by
   intro l
   induction l with
   | nil => simp
   | cons a l ih => rw [List.flatMap_cons,List.length_append,ih,List.length_map,List.length_range,List.length_cons,Nat.succ_mul];omega
  show (List.flatMap _ _).length≤2 ^ (tot e k+e k)
  rw [h,Nat.pow_add]
  exact Nat.mul_le_mul ih (Nat.lt_two_pow_self)
theorem boxL_mem {e:Nat→Nat}:∀ {k:Nat} {l:List Nat},l.length=k→(∀ i,i<k→fn l i≤e i)→l∈boxL e k
 | 0,l,h,_ => by
  obtain rfl:=List.eq_nil_of_length_eq_zero h
  exact List.mem_singleton.2 rfl
 | k+1,l,h,hl => by
  have hne:l≠[]:=fun e=>by rw [e] at h;cases h
  have hd:=List.dropLast_concat_getLast hne
  have hlen:l.dropLast.length=k:=by rw [List.length_dropLast];omega
  refine List.mem_flatMap.2 ⟨l.dropLast,boxL_mem hlen fun i hi=>?_,List.mem_map.2 ⟨l.getLast hne,List.mem_range.2 ?_,hd⟩⟩
  ·have h1:=hl i (by omega)
   have h2:fn l.dropLast i=fn l i:=by
    unfold fn
    rw [List.getD_eq_getElem?_getD,List.getD_eq_getElem?_getD,List.getElem?_dropLast,if_pos (by omega)]
   omega
  ·have h1:=hl k (by omega)
   have h2:fn l k=l.getLast hne:=by
    unfold fn
    rw [List.getD_eq_getElem?_getD,List.getLast_eq_getElem,List.getElem?_eq_getElem (by omega)]
    simp [h]
   omega
theorem pcuts_few {T:Tr} {L:List Syn} {M:List (List Nat)} (h1:M.Nodup) (h2:∀ l∈M,PCutL T L l) (ht:tot T.en T.n≤10):M.length≤1024:=by
 have h3:=sub_len h1 (m:=boxL T.en T.n) fun l hl=>boxL_mem (h2 l hl).1 fun i hi=>(h2 l hl).2.cut.le i hi
 have h4:=boxL_len T.en T.n
 have h5:2 ^ tot T.en T.n≤2 ^ 10:=Nat.pow_le_pow_right (by omega) ht
 have h6:(2:Nat) ^ 10=1024:=by decide
 omega
theorem used_iff {T:Tr} {N:List Syn} {F:List Nat} (h:AplOk T N F) (hV:T.Valid) {p m:Nat} (hp:p<T.n) (hm:m<(T.aplTr N F).en p):((T.aplTr N F).kind p m=1∨¬T.Free ((T.aplTr N F).msg p m).toNat)↔∃ i,i<T.en p∧T.pos N F p i=m:=by
 obtain ⟨i,k,ho⟩:=ow_ex (u:=(p,m)) ⟨hp,hm⟩
 have hVu:T.V (p,i):=⟨hp,ho.hi⟩
 rcases ho.ev h.nn with ⟨hk,hu2,kd,_,ms,_⟩ | ⟨c,a,hk,j,x,y,hj,hx,hy,hz,s,hs,kd,_,ms,_⟩
 ·constructor
  ·exact fun _=>⟨i,ho.hi,hu2.symm⟩
  ·intro _
   simp only at kd ms
   rw [kd,ms]
   rcases hV.formed ⟨(p,i),hVu⟩ with hf | hf
   ·exact .inl hf.1
   ·refine .inr fun hfr=>free_no hV hfr hVu hf.1 ?_
    have h0:0≤T.msg p i:=hf.2.2.2.2.1
    show T.msg p i=((T.msg p i).toNat:Int)
    omega
 ·have hfr:=(h.fr _ (h.fj (List.getElem?_eq_some_iff.1 hj).1)).2
  simp only at kd ms
  constructor
  ·rintro (h1 | h1)
   ·rw [kd] at h1;cases c <;> cases h1
   ·rw [ms,Int.toNat_natCast] at h1;exact absurd hfr h1
  ·rintro ⟨i',hi',e⟩
   have ho':Ow T N F (p,m) i' (T.insG N F false (p,i') N.length).length:=⟨hi',by rw [blk_len];show _<(T.insG N F false (p,i') N.length).length+1+_;omega,e.symm⟩
   obtain ⟨rfl,hkk⟩:=ho.uniq ho'
   exfalso
   have hl:=(List.getElem?_eq_some_iff.1 hs).1
   cases c
   ·have hk':k=a:=hk
    have hl':a<(T.insG N F false (p,i) N.length).length:=hl
    omega
   ·have hk':k=(T.insG N F false (p,i) N.length).length+1+a:=hk
    omega
end Go.Proofs.YtkhgpockmaghjaaGreat
