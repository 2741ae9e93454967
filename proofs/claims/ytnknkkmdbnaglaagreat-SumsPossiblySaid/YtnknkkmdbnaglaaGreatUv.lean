/- Contracts and laws in plain Lean for SPos: group Uv. -/
import Derived.Test.YtnknkkmdbnaglaaGreatUt
import Derived.Test.YtnknkkmdbnaglaaGreatUc
import Derived.Test.YtnknkkmdbnaglaaGreatKb
import Derived.Test.YtnknkkmdbnaglaaGreatUu
set_option maxRecDepth 100000
namespace Go.Proofs.YtnknkkmdbnaglaaGreat
open Go.RowKit
theorem mul_abs {a b:Int} {A B:Nat} (h1:a.natAbs≤A) (h2:b.natAbs≤B):(a*b).natAbs≤A*B:=by rw [Int.natAbs_mul];exact Nat.mul_le_mul h1 h2
theorem lsum_abs {α:Type} {g:α→Int} {B:Nat}:∀ {l:List α},(∀ a∈l,(g a).natAbs≤B)→(lsum g l).natAbs≤l.length*B
 | [],_ => by simp [lsum]
 | a :: l,h => by
  have h1:=lsum_abs (l:=l) fun b hb=>h b (List.mem_cons_of_mem _ hb)
  have h2:=h a List.mem_cons_self
  show (g a+lsum g l).natAbs≤(l.length+1)*B
  rw [Nat.add_mul,Nat.one_mul];omega
theorem lsum_take {α:Type} {g:α→Int} {l:List α} {j:Nat} {a:α} (h:l[j]?=some a):lsum g (l.take (j+1))=lsum g (l.take j)+g a:=by
 rw [List.take_add_one,h,lsum_append]
 show _+(g a+0)=_
 omega
theorem Tr.tix_at {T:Tr} {x:Trm} (h:0≤T.tix x):∃ v:Nat,0≤x.1∧x.1.toNat<T.n∧v<T.vn x.1.toNat∧T.varI x.1.toNat x.2.1=v∧T.tix x=v:=by
 unfold Tr.tix at h ⊢
 by_cases h0:0≤x.1∧x.1<(T.n:Int)
 ·rw [if_pos h0] at h ⊢
  rcases idxI_cases (fun v=>strEq (T.vname x.1.toNat v) x.2.1) (T.vn x.1.toNat) with ⟨h1,_⟩ | ⟨k,hk,_,h2⟩
  ·have h3:T.varI x.1.toNat x.2.1=-1:=h1
   omega
  ·exact ⟨k,h0.1,by omega,hk,h2,h2⟩
 ·rw [if_neg h0] at h;omega
theorem Tr.st_abs {T:Tr} (hV:T.Valid) {x:Trm} (h:0≤T.tix x) {k:Nat} (hk:k≤T.en x.1.toNat):(T.st (T.tedg x).1 (T.tedg x).2.1 k).natAbs≤1073741824:=by
 obtain ⟨v,_,hp,hv,hvi,_⟩:=Tr.tix_at h
 have h1:=hV.val_range hp hv (T.st_of x.1.toNat v k hk)
 show (T.st x.1.toNat (T.varI x.1.toNat x.2.1).toNat k).natAbs≤_
 rw [hvi,Int.toNat_natCast]
 omega
theorem Tr.known.take {T:Tr} {ts:List Trm} (h:T.known ts) (j:Nat):T.known (ts.take j):=fun x hx=>h x (List.mem_of_mem_take hx)
theorem coefs.take {ts:List Trm} (h:coefs ts) (j:Nat):coefs (ts.take j):=fun x hx=>h x (List.mem_of_mem_take hx)
theorem Tr.sumAt_abs {T:Tr} (hV:T.Valid) {ts:List Trm} (hk:T.known ts) (hc:coefs ts) (hl:ts.length≤64) {c:Nat→Nat} (hcl:∀ p,p<T.n→c p≤T.en p):(T.sumAt ts c).natAbs≤72057594037927936:=by
 unfold Tr.sumAt valC
 have h1:=lsum_abs (g:=fun x:Edg=>x.2.2*T.st x.1 x.2.1 (c x.1)) (l:=ts.map T.tedg) (B:=1048576*1073741824) fun e he=>by
  obtain ⟨x,hx,rfl⟩:=List.mem_map.1 he
  obtain ⟨v,_,hp,_,_,_⟩:=Tr.tix_at (hk x hx)
  have h2:=hc x hx
  exact mul_abs (by show x.2.2.natAbs≤_;omega) (Tr.st_abs hV (hk x hx) (hcl _ hp))
 rw [List.length_map] at h1
 refine Nat.le_trans h1 (Nat.le_trans (Nat.mul_le_mul_right _ hl) (by decide))
theorem Tr.wt_abs {T:Tr} (hV:T.Valid) {ts:List Trm} (hk:T.known ts) (hc:coefs ts) (hl:ts.length≤64) {p i:Nat} (hi:i<T.en p):(T.wt ts p i).natAbs≤144115188075855872:=by
 unfold Tr.wt wgt
 have h1:=lsum_abs (g:=fun x:Edg=>if x.1=p then x.2.2*(T.st p x.2.1 (i+1) - T.st p x.2.1 i) else 0) (l:=ts.map T.tedg) (B:=1048576*2147483648) fun e he=>by
  obtain ⟨x,hx,rfl⟩:=List.mem_map.1 he
  have h2:=hc x hx
  split
  ·next e=>
   subst e
   have h3:=Tr.st_abs hV (hk x hx) (k:=i+1) (by show i+1≤T.en x.1.toNat;have:(T.tedg x).1=x.1.toNat:=rfl;rw [this] at hi;omega)
   have h4:=Tr.st_abs hV (hk x hx) (k:=i) (by show i≤T.en x.1.toNat;have:(T.tedg x).1=x.1.toNat:=rfl;rw [this] at hi;omega)
   exact mul_abs (by show x.2.2.natAbs≤_;omega) (by omega)
  ·exact Nat.zero_le _
 rw [List.length_map] at h1
 refine Nat.le_trans h1 (Nat.le_trans (Nat.mul_le_mul_right _ hl) (by decide))
def Tr.begJ (T:Tr) (ts:List Trm) (j:Nat):Int:=T.sumAt (ts.take j) fun _=>0
def Tr.wtJ (T:Tr) (ts:List Trm) (p i j:Nat):Int:=T.wt (ts.take j) p i
theorem Tr.begJ_next {T:Tr} {ts:List Trm} {j:Nat} {x:Trm} (h:ts[j]?=some x) {p v:Nat} (hp:x.1=(p:Int)) (hv:T.varI p x.2.1=(v:Int)):T.begJ ts (j+1)=T.begJ ts j+x.2.2*T.vinit p v:=by
 unfold Tr.begJ Tr.sumAt valC
 rw [List.map_take,List.map_take,lsum_take (a:=T.tedg x) (by rw [List.getElem?_map,h];rfl)]
 have e1:(T.tedg x).1=p:=by show x.1.toNat=p;omega
 have e2:(T.tedg x).2.1=v:=by show (T.varI x.1.toNat x.2.1).toNat=v;rw [show x.1.toNat=p by omega,hv,Int.toNat_natCast]
 rw [e1,e2];rfl
theorem Tr.wtJ_yes {T:Tr} {ts:List Trm} {i j:Nat} {x:Trm} (h:ts[j]?=some x) {p v:Nat} (hp:x.1=(p:Int)) (hv:T.varI p x.2.1=(v:Int)):T.wtJ ts p i (j+1)=T.wtJ ts p i j+x.2.2*(T.st p v (i+1) - T.st p v i):=by
 unfold Tr.wtJ Tr.wt wgt
 rw [List.map_take,List.map_take,lsum_take (a:=T.tedg x) (by rw [List.getElem?_map,h];rfl)]
 have e1:(T.tedg x).1=p:=by show x.1.toNat=p;omega
 have e2:(T.tedg x).2.1=v:=by show (T.varI x.1.toNat x.2.1).toNat=v;rw [show x.1.toNat=p by omega,hv,Int.toNat_natCast]
 rw [if_pos e1,e2];rfl
theorem Tr.wtJ_no {T:Tr} {ts:List Trm} {i j:Nat} {x:Trm} (h:ts[j]?=some x) {p:Nat} (h0:0≤x.1) (hp:x.1≠(p:Int)):T.wtJ ts p i (j+1)=T.wtJ ts p i j:=by
 unfold Tr.wtJ Tr.wt wgt
 rw [List.map_take,List.map_take,lsum_take (a:=T.tedg x) (by rw [List.getElem?_map,h];rfl)]
 have e1:¬(T.tedg x).1=p:=by show ¬x.1.toNat=p;omega
 rw [if_neg e1];omega
theorem Tr.begJ_all {T:Tr} {ts:List Trm} {j:Nat} (h:ts.length≤j):T.begJ ts j=T.sumAt ts fun _=>0:=by unfold Tr.begJ;rw [List.take_of_length_le h]
theorem Tr.wtJ_all {T:Tr} {ts:List Trm} {p i j:Nat} (h:ts.length≤j):T.wtJ ts p i j=T.wt ts p i:=by unfold Tr.wtJ;rw [List.take_of_length_le h]
theorem take_len64 {ts:List Trm} (hl:ts.length≤64) (j:Nat):(ts.take j).length≤64:=by rw [List.length_take];omega
theorem Tr.begJ_abs {T:Tr} (hV:T.Valid) {ts:List Trm} (hk:T.known ts) (hc:coefs ts) (hl:ts.length≤64) (j:Nat):(T.begJ ts j).natAbs≤72057594037927936:=Tr.sumAt_abs hV (hk.take j) (hc.take j) (take_len64 hl j) fun _ _=>Nat.zero_le _
theorem Tr.wtJ_abs {T:Tr} (hV:T.Valid) {ts:List Trm} (hk:T.known ts) (hc:coefs ts) (hl:ts.length≤64) {p i:Nat} (hi:i<T.en p) (j:Nat):(T.wtJ ts p i j).natAbs≤144115188075855872:=Tr.wt_abs hV (hk.take j) (hc.take j) (take_len64 hl j) hi
theorem Tr.mass_next (T:Tr) (ts:List Trm) (p i:Nat):T.mass ts p (i+1)=T.mass ts p i+iabs (T.wt ts p i):=by
 unfold Tr.mass
 show _+(isum i _+_)=_
 rw [←Int.add_assoc]
theorem Tr.mass_end (T:Tr) (ts:List Trm) (p:Nat):T.mass ts (p+1) 0=T.mass ts p (T.en p):=by
 unfold Tr.mass
 show _+(isum p _+isum (T.en p) _)+(0:Int)=_
 rw [Int.add_zero,Int.add_assoc]
theorem Tr.mass_zero (T:Tr) (ts:List Trm):T.mass ts 0 0=iabs (T.sumAt ts fun _=>0):=by
 unfold Tr.mass
 show _+(0:Int)+(0:Int)=_
 omega
theorem Tr.mass_le (T:Tr) (ts:List Trm) {p i:Nat} (hp:p<T.n) (hi:i≤T.en p):T.mass ts p i≤T.mass ts T.n 0:=by
 have h1:=isum_mono (g:=fun j=>iabs (T.wt ts p j)) (fun j=>iabs_nonneg _) hi
 have h2:=isum_mono (g:=fun q=>isum (T.en q) fun j=>iabs (T.wt ts q j)) (fun q=>isum_nonneg fun j _=>iabs_nonneg _) (m:=p+1) (n:=T.n) hp
 unfold Tr.mass
 have e:isum (p+1) (fun q=>isum (T.en q) fun j=>iabs (T.wt ts q j))=isum p (fun q=>isum (T.en q) fun j=>iabs (T.wt ts q j))+isum (T.en p) fun j=>iabs (T.wt ts p j):=rfl
 have e0:isum 0 (fun j=>iabs (T.wt ts T.n j))=0:=rfl
 rw [e] at h2
 rw [e0];omega
open Classical in
noncomputable def Tr.wfn (T:Tr) (ts:List Trm) (v:Nat):Int:=if h:∃ x:NN,T.V x∧T.num x=v then T.wt ts h.choose.1 h.choose.2 else 0
theorem Tr.wfn_num {T:Tr} {ts:List Trm} {x:NN} (hx:T.V x):T.wfn ts (T.num x)=T.wt ts x.1 x.2:=by
 have h:∃ y:NN,T.V y∧T.num y=T.num x:=⟨x,hx,rfl⟩
 unfold Tr.wfn
 rw [dif_pos h,Tr.num_inj h.choose_spec.1 hx h.choose_spec.2]
theorem Tr.wfn_at {T:Tr} {ts:List Trm} {p i:Nat} (hp:p<T.n) (hi:i<T.en p):T.wfn ts (tott T.en p+i)=T.wt ts p i:=Tr.wfn_num (x:=(p,i)) ⟨hp,hi⟩
theorem Tr.wfn_ok {T:Tr} {ts:List Trm} (h:T.SumOk ts):WOk (T.wfn ts) (T.sumAt ts fun _=>0) (tott T.en T.n):=by
 refine ⟨by rw [tott_tot];exact h.few,?_⟩
 have h1:=h.mass
 rw [isum_tot,isum_congr (g:=fun p=>isum (T.en p) fun i=>iabs (T.wt ts p i)) fun p hp=>isum_congr fun i hi=>by rw [Tr.wfn_at hp hi]]
 unfold Tr.mass at h1
 have e0:isum 0 (fun j=>iabs (T.wt ts T.n j))=0:=rfl
 rw [e0] at h1;omega
theorem Tr.sumAt_atC {T:Tr} {ts:List Trm} (hk:T.known ts) {c:Nat→Nat} (hc:∀ p,p<T.n→c p≤T.en p):T.sumAt ts c=T.sumAt ts (fun _=>0)+T.atC (T.wfn ts) c:=by
 unfold Tr.sumAt Tr.atC
 rw [valC_weights T.st c T.n (ts.map T.tedg) fun e he=>by
  obtain ⟨x,hx,rfl⟩:=List.mem_map.1 he
  obtain ⟨v,_,hp,_⟩:=Tr.tix_at (hk x hx)
  exact hp]
 congr 1
 refine isum_congr fun p hp=>isum_congr fun i hi=>?_
 exact (Tr.wfn_num (x:=(p,i)) ⟨hp,by have:=hc p hp;show i<T.en p;omega⟩).symm
theorem Tr.atC_neg (T:Tr) (w:Nat→Int) (c:Nat→Nat):T.atC (fun v=>- w v) c=- T.atC w c:=by
 have key:∀ (g:Nat→Int) k,isum k (fun i=>- g i)=- isum k g:=by
  intro g k
  induction k with
  | zero => rfl
  | succ k ih => show isum k (fun i => - g i) + - g k=- (isum k g+g k);rw [ih];omega
 unfold Tr.atC
 rw [isum_congr (g:=fun p=>- isum (c p) fun i=>w (T.num (p,i))) fun p _=>key _ _,key]
end Go.Proofs.YtnknkkmdbnaglaaGreat

namespace Go.Proofs.YtnknkkmdbnaglaaGreat
open Go.RowKit
end Go.Proofs.YtnknkkmdbnaglaaGreat

namespace Go.Proofs.YtnknkkmdbnaglaaGreat
open Go.RowKit
def ex39:Tr where
 n:=2
 name k:=if k=0 then ⟨#[97]⟩ else ⟨#[98]⟩
 vn _:=1
 vname _ _:=⟨#[120]⟩
 vinit _ _:=0
 en k:=if k=0 then 2 else 1
 kind _ _:=1
 peer _ _:=0
 msg _ _:=0
 time _ _:=0
 an _ _:=1
 avar _ _ _:=0
 aval k i _:=if k=0 then (if i=0 then 1 else -5) else 1
def eS0:ex39.Id:=⟨(0,0),by decide,by decide⟩
def eS1:ex39.Id:=⟨(0,1),by decide,by decide⟩
def eS2:ex39.Id:=⟨(1,0),by decide,by decide⟩
theorem eS_evs:ex39.evs=[eS0,eS1,eS2]:=by rfl
theorem eS_ind {P:ex39.Id→Prop} (h0:P eS0) (h1:P eS1) (h2:P eS2):∀ x,P x:=by
 intro x
 have h:=evs_all x
 rw [eS_evs] at h
 simp at h
 rcases h with rfl | rfl | rfl
 ·exact h0
 ·exact h1
 ·exact h2
theorem ltS {k:Nat} (h:k<2):k=0∨k=1:=by omega
theorem ex39_valid:ex39.Valid:=by
 refine ⟨by decide,by decide,fun k hk=>?_,fun k i hk hi=>?_,?_,?_⟩
 ·rcases ltS hk with rfl | rfl
  ·refine ⟨by decide,by decide,by decide,fun i hi=>?_,by decide⟩
   obtain rfl:i=0:=by have:i<1:=hi;omega
   exact ⟨by decide,by decide,by decide⟩
  ·refine ⟨by decide,by kernel_rfl,by decide,fun i hi=>?_,by decide⟩
   obtain rfl:i=0:=by have:i<1:=hi;omega
   exact ⟨by decide,by decide,by decide⟩
 ·have hh:=eS_ind (P:=fun x=>ex39.EvOk x.1.1 x.1.2) ⟨by unfold FormedP;decide,by decide,by decide,by decide,fun j hj=>?_⟩ ⟨by unfold FormedP;decide,by decide,by decide,by decide,fun j hj=>?_⟩ ⟨by unfold FormedP;decide,by decide,by decide,by decide,fun j hj=>?_⟩
  ·exact hh ⟨(k,i),hk,hi⟩
  ·obtain rfl:j=0:=by have:j<1:=hj;omega
   exact ⟨by decide,by decide,by decide⟩
  ·obtain rfl:j=0:=by have:j<1:=hj;omega
   exact ⟨by decide,by decide,by decide⟩
  ·obtain rfl:j=0:=by have:j<1:=hj;omega
   exact ⟨by decide,by decide,by decide⟩
 ·rw [eS_evs]
  intro pre x ⟨t,ht⟩
  match pre,ht with
  | [],ht =>
   simp at ht;obtain ⟨rfl,_⟩:=ht
   exact ⟨(fun h=>by revert h;decide),(fun h=>by revert h;decide)⟩
  | [a],ht =>
   simp at ht;obtain ⟨rfl,rfl,_⟩:=ht
   exact ⟨(fun h=>by revert h;decide),(fun h=>by revert h;decide)⟩
  | [a,b],ht =>
   simp at ht;obtain ⟨rfl,rfl,rfl,_⟩:=ht
   exact ⟨(fun h=>by revert h;decide),(fun h=>by revert h;decide)⟩
  | a :: b :: c :: r,ht =>
   have:=congrArg List.length ht
   simp at this
 ·rintro ⟨x,hp⟩
  have h:=path_rank (V:=ex39.V) (fun z=>z.1+z.2) ?_ x.2 hp
  ·exact absurd h.2 (Nat.lt_irrefl _)
  ·intro a b ha hb
   have hh:=eS_ind (P:=fun x=>∀ b,b∈ex39.succ (Ltr.of ex39 ex39.evs) x.1→ex39.V b∧x.1.1+x.1.2<b.1+b.2) ?_ ?_ ?_ ⟨a,ha⟩ b hb
   ·exact hh
   ·intro b hb
    have:ex39.succ (Ltr.of ex39 ex39.evs) eS0.1=[(0,1)]:=by rfl
    rw [this] at hb;simp at hb;subst hb;exact ⟨⟨by decide,by decide⟩,by decide⟩
   ·intro b hb
    have:ex39.succ (Ltr.of ex39 ex39.evs) eS1.1=[]:=by rfl
    rw [this] at hb;cases hb
   ·intro b hb
    have:ex39.succ (Ltr.of ex39 ex39.evs) eS2.1=[]:=by rfl
    rw [this] at hb;cases hb
def exL:List Trm:=[(0,⟨#[120]⟩,1),(1,⟨#[120]⟩,1)]
theorem exS_varI (p:Nat):ex39.varI p ⟨#[120]⟩=0:=idxI_hit (k:=0) (by show (0:Nat)<1;decide) (by show strEq ⟨#[120]⟩ ⟨#[120]⟩=true;simp [strEq]) (fun j hj=>absurd hj (Nat.not_lt_zero _))
theorem exS_known:ex39.known exL:=by
 intro x hx
 simp [exL] at hx
 rcases hx with rfl | rfl
 ·show 0≤ex39.varI 0 ⟨#[120]⟩
  rw [exS_varI];decide
 ·show 0≤ex39.varI 1 ⟨#[120]⟩
  rw [exS_varI];decide
theorem exS_sum (c:Nat→Nat):ex39.sumAt exL c=ex39.st 0 0 (c 0)+ex39.st 1 0 (c 1):=by
 show 1*ex39.st 0 (ex39.varI 0 ⟨#[120]⟩).toNat (c 0)+(1*ex39.st 1 (ex39.varI 1 ⟨#[120]⟩).toNat (c 1)+0)=_
 rw [exS_varI,exS_varI]
 show 1*ex39.st 0 0 (c 0)+(1*ex39.st 1 0 (c 1)+0)=_
 omega
theorem exS_wt (p i:Nat):ex39.wt exL p i=(if 0=p then ex39.st p 0 (i+1) - ex39.st p 0 i else 0)+if 1=p then ex39.st p 0 (i+1) - ex39.st p 0 i else 0:=by
 show (if 0=p then 1*(ex39.st p (ex39.varI 0 ⟨#[120]⟩).toNat (i+1) - ex39.st p (ex39.varI 0 ⟨#[120]⟩).toNat i) else 0)+((if 1=p then 1*(ex39.st p (ex39.varI 1 ⟨#[120]⟩).toNat (i+1) - ex39.st p (ex39.varI 1 ⟨#[120]⟩).toNat i) else 0)+0)=_
 rw [exS_varI,exS_varI,Int.one_mul,Int.add_zero];rfl
theorem exS_ok:ex39.SumOk exL:=by
 refine ⟨ex39_valid,by decide,exS_known,?_,by decide,?_⟩
 ·intro x hx
  simp [exL] at hx
  rcases hx with rfl | rfl <;> exact ⟨by decide,by decide⟩
 ·have e0:ex39.sumAt exL (fun _=>0)=0:=by rw [exS_sum];rfl
  have a0:iabs (ex39.wt exL 0 0)=1:=by rw [exS_wt];rfl
  have a1:iabs (ex39.wt exL 0 1)=6:=by rw [exS_wt];rfl
  have b0:iabs (ex39.wt exL 1 0)=1:=by rw [exS_wt];rfl
  unfold Tr.mass
  rw [e0]
  show iabs 0+((0+(0+iabs (ex39.wt exL 0 0)+iabs (ex39.wt exL 0 1)))+(0+iabs (ex39.wt exL 1 0)))+0≤_
  rw [a0,a1,b0];decide
theorem exS_st0:ex39.st 0 0 0=0∧ex39.st 0 0 1=1∧ex39.st 0 0 2=-5∧ex39.st 1 0 0=0∧ex39.st 1 0 1=1:=⟨rfl,rfl,rfl,rfl,rfl⟩
theorem exS_cut (a b:Nat) (ha:a≤2) (hb:b≤1):ex39.CutOk fun p=>if p=0 then a else b:=
 ⟨fun p hp=>by
  rcases ltS hp with rfl | rfl
  ·exact ha
  ·exact hb,fun x _ _ h=>by have h:(1:Int)=3:=h;omega⟩
theorem exS_at {c:Nat→Nat} (hc:ex39.CutOk c):ex39.atC (ex39.wfn exL) c=ex39.st 0 0 (c 0)+ex39.st 1 0 (c 1):=by
 have h:=Tr.sumAt_atC exS_known hc.le
 rw [exS_sum,exS_sum] at h
 have e0:ex39.st 0 0 ((fun _=>0:Nat→Nat) 0)+ex39.st 1 0 ((fun _=>0:Nat→Nat) 1)=0:=rfl
 rw [e0] at h;omega
theorem exS_cases {c:Nat→Nat} (hc:ex39.CutOk c):(c 0=0∨c 0=1∨c 0=2)∧(c 1=0∨c 1=1):=by
 have h0:c 0≤2:=hc.le 0 (by decide)
 have h1:c 1≤1:=hc.le 1 (by decide)
 omega
theorem exS_best:ex39.Best 0 (ex39.wfn exL) 2 fun _=>1:=by
 have hc:ex39.CutOk fun _=>1:=(exS_cut 1 1 (by decide) (by decide)).congr fun p _=>by split <;> rfl
 obtain ⟨s0,s1,s2,t0,t1⟩:=exS_st0
 have e:ex39.atC (ex39.wfn exL) (fun _=>1)=ex39.st 0 0 1+ex39.st 1 0 1:=exS_at hc
 rw [s1,t1] at e
 refine ⟨hc,by rw [e];rfl,fun d hd=>?_,fun d hd he p hp=>?_⟩
 ·rw [e,exS_at hd]
  obtain ⟨h0,h1⟩:=exS_cases hd
  rcases h0 with h0 | h0 | h0 <;> rcases h1 with h1 | h1 <;> rw [h0,h1] <;> simp only [s0,s1,s2,t0,t1] <;> decide
 ·rw [e,exS_at hd] at he
  obtain ⟨h0,h1⟩:=exS_cases hd
  rcases h0 with h0 | h0 | h0 <;> rcases h1 with h1 | h1 <;> rw [h0,h1] at he <;> simp only [s0,s1,s2,t0,t1] at he <;> rcases ltS hp with rfl | rfl <;> omega
theorem exS_least:ex39.Best 0 (fun v=>- ex39.wfn exL v) 5 fun p=>if p=0 then 2 else 0:=by
 have hc:ex39.CutOk fun p=>if p=0 then 2 else 0:=exS_cut 2 0 (by decide) (by decide)
 obtain ⟨s0,s1,s2,t0,t1⟩:=exS_st0
 have e:=exS_at hc
 rw [if_pos rfl,if_neg (by decide),s2,t0] at e
 refine ⟨hc,by rw [Tr.atC_neg,e];rfl,fun d hd=>?_,fun d hd he p hp=>?_⟩
 ·rw [Tr.atC_neg,Tr.atC_neg,e,exS_at hd]
  obtain ⟨h0,h1⟩:=exS_cases hd
  rcases h0 with h0 | h0 | h0 <;> rcases h1 with h1 | h1 <;> rw [h0,h1] <;> simp only [s0,s1,s2,t0,t1] <;> decide
 ·rw [Tr.atC_neg,Tr.atC_neg,e,exS_at hd] at he
  obtain ⟨h0,h1⟩:=exS_cases hd
  rcases h0 with h0 | h0 | h0 <;> rcases h1 with h1 | h1 <;> rw [h0,h1] at he <;> simp only [s0,s1,s2,t0,t1] at he <;> rcases ltS hp with rfl | rfl <;> first | omega | (rw [if_pos rfl];omega) | (rw [if_neg (by decide)];omega)
end Go.Proofs.YtnknkkmdbnaglaaGreat

namespace Go.Proofs.YtnknkkmdbnaglaaGreat
open Go.RowKit Go.Shelf
theorem idx_int (w : World) (a : Option Addr) (b off n cap : Nat) (c0 : Nat → Value) (g : Nat) (lb : Array Value) (p : Nat → Bool)
    (hn:n≤140737488355328) (ha:0<n→a=some ⟨b,off,none⟩)
    (l0:∀ w',Ext w w'→∀ i,i<n→w'.cell? ⟨b,off+i,none⟩=some (c0 i))
    (eg:Enters Tryz.prog g)
    (hp:∀ i,i<n→∀ w',Ext w w'→Calls Tryz.prog g (#[c0 i]++lb) w' fun e w''=>e=.returned (.bool (p i))∧Ext w' w'') :
    Calls Tryz.prog 139 #[.slice a n cap,.func (.func g) #[] lb] w fun e w'=>e=.returned (.int .i64 (idxI p n))∧Ext w w':=by
 have HP:=Lib.hid hp
 clear hp
 go_enter Tryz.func139,Tryz.ntmps139
 go_wp2
 go_loopw [8] (fun v wr=>∃ k:Nat,k≤n∧v=.int .i64 k∧Ext w wr∧NoneB p k) (fun v _=>n - (intOf v).toNat)
 case atStart=>exact ⟨0,Nat.zero_le _,rfl,Ext.refl _,NoneB.zero _⟩
 case round=>
  obtain ⟨k,hk,rfl,hx,hN⟩:=hrel
  have HN:=Lib.hid hN
  clear hN
  by_cases hlt:k<n
  ·obtain rfl:=ha (by omega)
   have hc:=HP.out k hlt wr hx
   unfold Enters at eg
   cases hq:p k with
   | true =>
    rw [hq] at hc
    go_wp2_with (go_at_fn g;refine hc.mono ?_;rintro e w' ⟨rfl,hx'⟩)
    go_ret
    exact ⟨ret_int (idxI_hit hlt hq HN.out).symm,hx.trans hx'⟩
   | false =>
    rw [hq] at hc
    go_wp2_with (go_at_fn g;refine hc.mono ?_;rintro e w' ⟨rfl,hx'⟩)
    go_roundw
    case rel=>exact ⟨k+1,by omega,by go_num,hx.trans hx',HN.out.succ hq⟩
    case measure=>simp [intOf];omega
  ·have HN':=Lib.hid (show NoneB p n from fun i hi=>HN.out i (by omega))
   go_wp2
   go_ret
   exact ⟨ret_int (idxI_none HN'.out).symm,hx⟩
theorem has_int (w : World) (a : Option Addr) (b off n cap : Nat) (c0 : Nat → Value) (g : Nat) (lb : Array Value) (p : Nat → Bool)
    (hn:n≤140737488355328) (ha:0<n→a=some ⟨b,off,none⟩)
    (l0:∀ w',Ext w w'→∀ i,i<n→w'.cell? ⟨b,off+i,none⟩=some (c0 i))
    (eg:Enters Tryz.prog g)
    (hp:∀ i,i<n→∀ w',Ext w w'→Calls Tryz.prog g (#[c0 i]++lb) w' fun e w''=>e=.returned (.bool (p i))∧Ext w' w'') :
    Calls Tryz.prog 65 #[.slice a n cap,.func (.func g) #[] lb] w fun e w'=>e=.returned (.bool (anyB p n))∧Ext w w':=by
 have hc:=idx_int w a b off n cap c0 g lb p hn ha l0 eg hp
 have HI:=Lib.hid (idxI_anyB p n)
 clear hp l0 ha eg
 go_enter Tryz.func65,Tryz.ntmps65
 go_wp2_with (go_at_call 139;refine hc.mono ?_;rintro e w' ⟨rfl,hx'⟩)
 go_ret
 exact ⟨ret_bool HI.out,hx'⟩
theorem Netw.Reach.lt {N:Netw} (h:N.Ok) {s:Nat} {f:Nat→Int} (hs:s<N.n) {v:Nat} (hv:N.Reach s f v):v<N.n:=by
 induction hv with
 | start => exact hs
 | @fwd i hi _ _ _ => exact h.dst i hi
 | @back i hi _ _ _ => exact h.src i hi
def inSet (B:SetM) (n:Nat) (v:Nat):Bool:=decide (v<n) && (B.wd (v / 64)).testBit (v % 64)
theorem inSet_eq {B:SetM} {n v:Nat} (h:v<n):inSet B n v=(B.wd (v / 64)).testBit (v % 64):=by simp [inSet,h]
def crow (en:Nat→Nat) (R:Nat→Bool) (k i:Nat):Nat→Nat:=fun j=>if j<k then cutOf en R j else if j=k then cntB (fun i=>R (tott en k+i)) i else 0
theorem crow_next (en:Nat→Nat) (R:Nat→Bool) (k j:Nat):crow en R (k+1) 0 j=crow en R k (en k) j:=by
 unfold crow
 by_cases h1:j<k
 ·rw [if_pos (by omega),if_pos h1]
 ·by_cases h2:j=k
  ·subst h2;rw [if_pos (by omega),if_neg h1,if_pos rfl];rfl
  ·rw [if_neg (by omega),if_neg h1,if_neg h2]
   split <;> rfl
theorem crow_self (en:Nat→Nat) (R:Nat→Bool) (k i:Nat):crow en R k i k=cntB (fun i=>R (tott en k+i)) i:=by unfold crow;rw [if_neg (by omega),if_pos rfl]
theorem crow_yes {en:Nat→Nat} {R:Nat→Bool} {k i:Nat} (h:R (tott en k+i)=true) (j:Nat):crow en R k (i+1) j=if j=k then crow en R k i k+1 else crow en R k i j:=by
 by_cases e:j=k
 ·subst e;rw [if_pos rfl,crow_self,crow_self]
  show cntB _ i+_=_
  rw [if_pos h]
 ·rw [if_neg e];unfold crow
  simp only [if_neg e]
theorem crow_no {en:Nat→Nat} {R:Nat→Bool} {k i:Nat} (h:¬R (tott en k+i)=true) (j:Nat):crow en R k (i+1) j=crow en R k i j:=by
 unfold crow
 split
 ·rfl
 ·split
  ·show cntB _ i+_=_
   rw [if_neg h];rfl
  ·rfl
theorem crow_le (en:Nat→Nat) (R:Nat→Bool) (k i:Nat):crow en R k i k≤i:=by rw [crow_self];exact cntB_le _ _
theorem setm1 {w:World} {p:Addr} {v:Value} {G:World→Prop} (h:∀ w7,w7=w.setCell p v→G w7):G (w.setCell p v):=h _ rfl
theorem IntRow.like {w:World} {g n:Nat} {f f':Nat→Int} (h:IntRow w g n f) (e:∀ k,k<n→f' k=f k):IntRow w g n f':=⟨fun k hk=>by rw [e k hk];exact h.c k hk,h.fr,h.lt⟩
theorem IntRow.cut {w:World} {g n:Nat} {c:Nat→Nat} (h:IntRow w g n fun j=>(c j:Int)):CutAt w n (some ⟨g,0,none⟩) g 0 c:=⟨fun _=>rfl,fun _=>h.lt,fun k hk=>by rw [Nat.zero_add];exact h.c k hk⟩
theorem Tr.best_set {T : Tr} (hV : T.Valid) {w : Nat → Int} {b : Int} {m : Nat} (hm : m = tott T.en T.n) (ho : WOk w b m) {B : SetM} {f : Nat → Int} {val : Int} (hFl : (Netw.ofList (m + 2) (closureNet m w T.needs)).Flow m (m + 1) f val)
    (hRe:∀ v,v<m+2→((B.wd (v / 64)).testBit (v % 64)=true↔(Netw.ofList (m+2) (closureNet m w T.needs)).Reach m f v)) (hNt:¬(Netw.ofList (m+2) (closureNet m w T.needs)).Reach m f (m+1)) :
    T.Best b w (b+T.atC w (cutOf T.en (inSet B (m+2)))) (cutOf T.en (inSet B (m+2))):=by
 subst hm
 have hN:=Tr.netOk hV ho
 refine (Tr.best_of (R:=inSet B (tott T.en T.n+2)) hN.ok hFl (fun v=>⟨fun h=>?_,fun h=>?_⟩) ?_ b).2
 ·simp only [inSet,Bool.and_eq_true,decide_eq_true_eq] at h
  exact (hRe v h.1).1 h.2
 ·have h1:v<tott T.en T.n+2:=Netw.Reach.lt hN.ok (by show tott T.en T.n<tott T.en T.n+2;omega) h
  rw [inSet_eq h1]
  exact (hRe v h1).2 h
 ·have h1:¬inSet B (tott T.en T.n+2) (tott T.en T.n+1)=true:=fun h=>hNt ((hRe _ (by omega)).1 (by rw [inSet_eq (by omega)] at h;exact h))
  simpa using h1
def SgrPost (S:SumM) (W:World) (e:Ending) (w':World):Prop:=Ext W w'∧∃ (v:Int) (c:Nat→Nat) (g:Nat),e=.returned (.tuple #[.int .i64 v,.slice (some ⟨g,0,none⟩) S.T.n S.T.n,.int .i64 0])∧IntRow w' g S.T.n (fun p=>(c p:Int))∧W.heap.size≤g∧S.T.toTr.Best S.b S.w v c
set_option maxHeartbeats 4000000 in
theorem sgreat_any (W:World) (S:SumM) (hS:S.At W):Calls Tryz.prog 79 #[S.val] W (SgrPost S W):=by
 obtain ⟨j0,hj0,hy0,hy1,hy2⟩:=info_parts infoInt
 have HWO:=Lib.hid hS.ok
 have HNX:=Lib.hid (fun W' (h:Ext W W')=>snet_any W' S (hS.ext h))
 have HAX:=Lib.hid (fun W' (h:Ext W W') a g o cap c hC hc=>sat_any W' S (hS.ext h) a g o cap c hC hc)
 have HCU:=Lib.hid (fun W' v (hq:EdOwn W' W.heap.size v (closureNet S.m S.w S.T.toTr.needs))=>(show ∃ a g off cap,v=.slice a (closureNet S.m S.w S.T.toTr.needs).length cap∧Calls Tryz.prog 158 #[.agg #[.int .i64 ((S.m:Int)+2),.slice a (closureNet S.m S.w S.T.toTr.needs).length cap],.int .i64 (S.m:Int),.int .i64 ((S.m:Int)+1)] W' (FcutPost (S.m+2) (closureNet S.m S.w S.T.toTr.needs) S.m (S.m+1) W')∧off=off∧g=g from by
  have hN:=Tr.netOk hS.V hS.ok
  have hL:(closureNet S.m S.w S.T.toTr.needs).length≤2000:=hN.m
  obtain ⟨a,g,off,cap,h1,h2,_⟩:=hq.at (by omega)
  have hc:=fcut_any W' (S.m+2) S.m (S.m+1) (closureNet S.m S.w S.T.toTr.needs) a g off cap (show NetOk (S.m+2) (closureNet S.m S.w S.T.toTr.needs) from hN) h2 (by omega) (by omega) (by omega)
  have e1:((S.m+2:Nat):Int)=(S.m:Int)+2:=by omega
  have e2:((S.m+1:Nat):Int)=(S.m:Int)+1:=by omega
  rw [e1,e2] at hc
  exact ⟨a,g,off,cap,h1,hc,rfl,rfl⟩))
 have hm5:S.m≤510:=hS.ok.few
 have HT:=Lib.hid hS.T
 have HV:=Lib.hid hS.V
 clear hS
 unfold SgrPost
 obtain ⟨m,hm⟩:∃ m,m=S.m:=⟨_,rfl⟩
 have HM:=Lib.hid hm
 obtain ⟨T,tv,wa,wg,wo,wc,w,b⟩:=S
 simp only [SumM.val] at *
 rw [←hm] at hm5 HNX HAX HCU HWO ⊢
 have HMT:=Lib.hid (show m=tott T.en T.n from hm)
 clear hm
 have hn8:=HV.out.n8
 have hn1:=HV.out.n1
 obtain ⟨ta,hta⟩:∃ z,z=T.a:=⟨_,rfl⟩
 have HTA:=Lib.hid hta
 obtain rfl:ta=some ⟨T.b,T.off,none⟩:=by rw [hta];exact HT.out.P.pa (by omega)
 simp only [TM.sl] at *
 rw [←hta] at HNX HAX ⊢
 clear hta
 go_enter Tryz.func79,Tryz.ntmps79
 go_upto_region 1 with fail
 refine boxed1 (w:=W) (G:=fun x=>Code.wp _ _ _ _ x) ?_
 intro w1 hx1 hs1 ⟨l0,c0,_,k0⟩
 have hx11:Ext w1 w1:=Ext.refl _
 have hw1:IntKind.i64.wrap ((m:Int)+1)=(m:Int)+1:=IntWalk.i64_in _ (by omega)
 clear hs1
 go_wp2_with fail
 go_at_call 88
 refine (HNX.out w1 hx1).mono ?_
 rintro e w2 ⟨hx2,v2,he,hq2⟩
 rw [←HM.out] at he
 subst he
 obtain ⟨a2,_,_,cap2,rfl,hcu,_,_⟩:=HCU.out w2 v2 (Que.mono (show EdOwn w2 w1.heap.size v2 (closureNet m w T.toTr.needs) from by rw [HM.out];exact hq2) hx1.le)
 have hx12:=hx1.trans hx2
 have hx112:Ext w1 w2:=hx2
 have hw2:IntKind.i64.wrap ((m:Int)+1)=(m:Int)+1:=IntWalk.i64_in _ (by omega)
 go_wp2_with fail
 go_at_call 158
 refine hcu.mono ?_
 rintro e w3 ⟨hx3,B,fv,ff,rfl,hB,hG,hFl,hRe,hNt⟩
 have hx13:=hx12.trans hx3
 have HB3:=Lib.hid hB
 have HG:=Lib.hid hG
 have hb1:=Tr.best_set HV.out (B:=B) (b:=b) HMT.out HWO.out hFl hRe hNt
 have HBest:=Lib.hid hb1
 clear hB hG hFl hRe hNt hb1 hcu hw2
 obtain ⟨R,hR⟩:∃ R,R=inSet B (m+2):=⟨_,rfl⟩
 rw [←hR] at HBest
 have HR:=Lib.hid hR
 clear hR
 go_upto_region 3 with fail
 refine boxed1 (w:=w3) (G:=fun x=>Code.wp _ _ _ _ x) ?_
 intro w4 hx4 hs4 ⟨l4,c4,_,k4⟩
 have hx04:=hx13.trans hx4
 have hx14:=(hx112.trans hx3).trans hx4
 have hx44:Ext w4 w4:=Ext.refl _
 have HB4:=Lib.hid (HB3.out.ext hx4)
 have HHas:=Lib.hid (fun W' (x:Ext w4 W') v (hv:v<m+2)=>(show Calls Tryz.prog 159 #[B.val,.int .i64 v] W' fun e w'=>e=.returned (.bool (R v))∧Ext W' w' from by
  have h:=bhas_any B (m+2) v W' (HB4.out.ext x) HG.out hv
  rw [HR.out,inSet_eq hv];exact h))
 have HCR:=Lib.hid (fun k i=>(crow_le T.en R k i))
 clear hs4
 go_upto_region 6 with (at_make;refine wpList_make_full _ rfl _ _ 28 rfl w4.heap.size 3 j0 (.int .i64 0) 1 Tryz.underlying28 hj0 hy0 hy1 .i64 .i64 _ _ T.n rfl rfl rfl rfl (by rw [hy2];omega) (by unfold maxLen;omega) (Nat.le_refl _) ?_;intro w5 hown5 hg5)
 have hx45:Ext w4 w5:=(Below.refl _ _).grown hg5 (Nat.le_refl _) (by simp)
 have hx15:=hx14.trans hx45
 have HI5:=Lib.hid (IntRow.made hown5)
 clear hown5 hg5
 obtain ⟨gC,hgC⟩:∃ g,g=w4.heap.size:=⟨_,rfl⟩
 rw [←hgC] at HI5 ⊢
 have HGC:=Lib.hid hgC
 have hgl:w4.heap.size≤gC:=by omega
 clear hgC
 go_wp2_with fail
 go_loopg [10,38] T.n (fun gg v10 v38 wr=>∃ k:Nat,k≤T.n∧gg=T.n - k∧v38=.int .i64 k∧v10=.int .i64 (tott T.en k:Nat)∧IntRow wr gC T.n (fun j=>(crow T.en R k 0 j:Int))∧Ext w4 wr)
 case atStart=>exact ⟨0,by omega,rfl,rfl,rfl,HI5.out.like fun j _=>by simp [crow,cntB],hx45⟩
 case round=>
  obtain ⟨k,hk,rfl,rfl,rfl,hI,hxr⟩:=hrel
  have HI:=Lib.hid hI
  clear hI
  by_cases hlt:k<T.n
  ·have hlt':(k:Int)<(T.n:Int):=by omega
   have hen:=HV.out.en64 hlt
   have pb:=HT.out.P.pb (by omega)
   have p0:∀ w',Ext W w'→w'.cell? ⟨T.b,T.off+k*3,none⟩=some (.string (T.name k)):=fun w' h=>HT.out.P.p0 w' h k hlt
   have p1:∀ w',Ext W w'→w'.cell? ⟨T.b,T.off+k*3+1,none⟩=some (.slice (T.va k) (T.vn k) (T.vc k)):=fun w' h=>HT.out.P.p1 w' h k hlt
   have p2:∀ w',Ext W w'→w'.cell? ⟨T.b,T.off+k*3+2,none⟩=some (.slice (T.ea k) (T.en k) (T.ec k)):=fun w' h=>HT.out.P.p2 w' h k hlt
   have hx0r:=hx04.trans hxr
   have hx1r:=hx14.trans hxr
   go_upto_region 10 with fail
   refine boxed1 (w:=wr) (G:=fun x=>Code.wp _ _ _ _ x) ?_
   intro w6 hx6 hs6 ⟨l6,c6,f6,k6⟩
   have hx66:Ext w6 w6:=Ext.refl _
   have hx46:=hxr.trans hx6
   have HI6:=Lib.hid (HI.out.ext hx6)
   clear hs6
   go_wp2_with fail
   go_loopg [10,46] (T.en k) (fun gg v10 v46 wr=>∃ i:Nat,i≤T.en k∧gg=T.en k - i∧v46=.int .i64 i∧v10=.int .i64 (tott T.en k+i:Nat)∧IntRow wr gC T.n (fun j=>(crow T.en R k i j:Int))∧Ext w4 wr)
   case atStart=>exact ⟨0,by omega,rfl,rfl,rfl,HI6.out,hx46⟩
   case round=>
    obtain ⟨i,hi,rfl,rfl,rfl,hI,hx4i⟩:=hrel
    have HIi:=Lib.hid hI
    clear hI l6 c6 f6 k6 hx66
    obtain ⟨v,hv⟩:∃ v,v=tott T.en k+i:=⟨_,rfl⟩
    have hvm:v≤m:=by
     rw [hv,HM.out]
     have h1:=tott_mono T.en (p:=k+1) (q:=T.n) hlt
     have h2:tott T.en (k+1)=tott T.en k+T.en k:=rfl
     show _≤tott T.en T.n;omega
    have HVE:=Lib.hid hv
    rw [←hv]
    by_cases hli:i<T.en k
    ·have hli':(i:Int)<(T.en k:Int):=by omega
     have hh:=HHas.out wr hx4i v (by omega)
     clear hv
     go_wp2_with fail
     go_at_call 159
     refine hh.mono ?_
     rintro e w7 ⟨rfl,hx7⟩
     have hx47:=hx4i.trans hx7
     have HI7:=Lib.hid (HIi.out.ext hx7)
     clear hh
     cases hb:R v with
     | true =>
      have HST:=Lib.hid (fun j=>crow_yes (en:=T.en) (R:=R) (k:=k) (i:=i) (by rw [←HVE.out];exact hb) j)
      have cC:∀ w',Ext w7 w'→w'.cell? ⟨gC,k,none⟩=some (.int .i64 (crow T.en R k i k:Int)):=fun w' x=>x.cell (HI7.out.c k hlt)
      have lC:∀ w',Ext w7 w'→gC<w'.heap.size:=fun w' x=>Nat.lt_of_lt_of_le HI7.out.lt x.le
      have fC:∀ w',Ext w7 w'→w'.frozen? ⟨gC,k,none⟩=false:=fun w' x=>(x.frozen (p:=⟨gC,k,none⟩) HI7.out.lt).trans (HI7.out.fr k)
      have hx77:Ext w7 w7:=Ext.refl _
      have hcr:=HCR.out k i
      generalize hcc:crow T.en R k i k=cc at cC hcr
      have hwc:IntKind.i64.wrap ((cc:Int)+1)=(cc:Int)+1:=IntWalk.i64_in _ (by omega)
      have HCC:=Lib.hid hcc
      clear hcc
      go_upto_region 14 with fail
      refine setm1 (G:=fun x=>Code.wp _ _ _ _ x) ?_
      intro w8 hw8
      have HI8:=Lib.hid (show IntRow w8 gC T.n (fun j=>(crow T.en R k (i+1) j:Int)) from by
       rw [hw8]
       exact (HI7.out.set k ((cc:Int)+1)).like fun j hj=>by
        rw [HST.out j]
        by_cases e:j=k
        ·subst e;rw [if_pos rfl,if_pos rfl,HCC.out];omega
        ·rw [if_neg e,if_neg e])
      have hx48:Ext w4 w8:=by rw [hw8];exact hx47.setCell hgl _
      clear hw8 cC lC fC hx77
      go_wp2_with fail
      go_roundg (T.en k - (i+1))
      case rel=>exact ⟨i+1,by omega,rfl,by go_num,congrArg (Value.int .i64) (by rw [HVE.out];omega),HI8.out,hx48⟩
      case measure=>omega
     | false =>
      have HST:=Lib.hid (fun j=>crow_no (en:=T.en) (R:=R) (k:=k) (i:=i) (by rw [←HVE.out,hb];decide) j)
      go_wp2_with fail
      go_roundg (T.en k - (i+1))
      case rel=>exact ⟨i+1,by omega,rfl,by go_num,congrArg (Value.int .i64) (by rw [HVE.out];omega),HI7.out.like fun j _=>by rw [HST.out j],hx47⟩
      case measure=>omega
    ·obtain rfl:i=T.en k:=by omega
     clear hv
     go_wp2_with fail
     go_roundg (T.n - (k+1))
     case rel=>exact ⟨k+1,by omega,rfl,by go_num,by rw [HVE.out];rfl,HIi.out.like fun j _=>by rw [crow_next],hx4i⟩
     case measure=>omega
  ·obtain rfl:k=T.n:=by omega
   have hFin:IntRow wr gC T.n (fun j=>(cutOf T.en R j:Int)):=HI.out.like fun j hj=>by unfold crow;rw [if_pos hj]
   have hC:=hFin.cut
   have HF:=Lib.hid hFin
   have hat:=HAX.out wr (hx04.trans hxr) _ gC 0 T.n (cutOf T.en R) hC HBest.out.cut.le
   have hx1r:=hx14.trans hxr
   clear hFin hC
   go_wp2_with fail
   go_at_call 87
   refine hat.mono ?_
   rintro e w9 ⟨rfl,hx9⟩
   have hx19:=hx1r.trans hx9
   clear hat
   go_wp2_with fail
   go_ret3
   exact ⟨hx1.trans hx19,_,cutOf T.en R,gC,rfl,HF.out.ext hx9,by have:=hx04.le;omega,HBest.out⟩
theorem WOk.best {T:Tr} {w:Nat→Int} {b:Int} (h:WOk w b (tott T.en T.n)) {v:Int} {c:Nat→Nat} (hB:T.Best b w v c):-562949953421312≤v∧v≤562949953421312:=by
 have h1:=h.part (T.inCut c) (Nat.le_refl _)
 rw [Tr.atC_wsum hB.cut.le fun x hx=>Tr.inCut_iff hx,←hB.val] at h1
 exact h1
def rowL (f:Nat→Int) (k:Nat):List Int:=(List.range k).map f
theorem rowL_succ (f:Nat→Int) (k:Nat):intCells (rowL f (k+1))=intCells (rowL f k)++[.int .i64 (f k)]:=by simp [rowL,List.range_succ,intCells]
theorem rowL_get (f:Nat→Int) {k p:Nat} (h:p<k):(intCells (rowL f k))[p]?=some (.int .i64 (f p)):=by simp [rowL,intCells,h]
structure OpI (w1:World) (b5:Nat) (tv sv:Value) (nb:Int) (f:Nat→Int) (k:Nat) (ev:Value) (wr:World):Prop where
 h5:Hold wr b5 #[tv,sv,ev,.int .i64 nb]
 own:wr.ownsRow (b5+1) 3 1 ev k (intCells (rowL f k))
 hx:Ext w1 wr
 lo:w1.heap.size≤b5
theorem OpI.ext {w1:World} {b5:Nat} {tv sv:Value} {nb:Int} {f:Nat→Int} {k:Nat} {ev:Value} {wr w':World} (h:OpI w1 b5 tv sv nb f k ev wr) (x:Ext wr w'):OpI w1 b5 tv sv nb f k ev w':=⟨h.h5.ext x,own_ext h.own x,h.hx.trans x,h.lo⟩
theorem OpI.push {w1 : World} {b5 : Nat} {tv sv : Value} {nb : Int} {f : Nat → Int} {k : Nat} {ev v6 : Value} {wr w5 w6 : World} (h : OpI w1 b5 tv sv nb f k ev wr) (x : Ext wr w5) (hown : w6.ownsRow (b5 + 1) 3 1 v6 (k + 1) (intCells (rowL f k) ++ [.int .i64 (f k)])) (hg : w5.grownBy w6 ev.ownBlock) :
    Hold w6 b5 #[tv,sv,ev,.int .i64 nb]∧OpI w1 b5 tv sv nb f (k+1) v6 (w6.setCell ⟨b5,2,none⟩ v6):=by
 have h5:=h.ext x
 have hlt:=h5.h5.lt
 have hb:w6.heap[b5]?=w5.heap[b5]?:=hg.block b5 hlt (fun e=>by have:=(own_lt h5.own b5 e.symm).1;omega)
 have hH:Hold w6 b5 #[tv,sv,ev,.int .i64 nb]:=by obtain ⟨ty,hty⟩:=h5.h5;exact ⟨ty,hb.trans hty⟩
 refine ⟨hH,hH.set 2 v6,?_,?_,h.lo⟩
 ·rw [rowL_succ];exact own_same hown fun g e=>Below.heap_setCell _ _ _ _ (by have:=(own_lt hown g e).1;show g≠b5;omega)
 ·have h6:Ext w1 w6:=h5.hx.below.grown hg h5.hx.le (fun g e=>by have:=(own_lt h5.own g e).1;have:=h.lo;omega)
  exact h6.setCell h.lo _
def SleastPost (S:SumM) (W:World) (e:Ending) (w':World):Prop:=Ext W w'∧∃ (v:Int) (c:Nat→Nat) (g:Nat),e=.returned (.tuple #[.int .i64 (- v),.slice (some ⟨g,0,none⟩) S.T.n S.T.n,.int .i64 0])∧IntRow w' g S.T.n (fun p=>(c p:Int))∧W.heap.size≤g∧S.T.toTr.Best (- S.b) (fun v=>- S.w v) v c
set_option maxHeartbeats 4000000 in
theorem sleast_any (W:World) (S:SumM) (hS:S.At W):Calls Tryz.prog 80 #[S.val] W (SleastPost S W):=by
 obtain ⟨j0,hj0,hy0,hy1,hy2⟩:=info_parts infoInt
 have HGR:=Lib.hid (fun W' (S':SumM) (h:S'.At W')=>sgreat_any W' S' h)
 have HT:=Lib.hid hS.T
 have HV:=Lib.hid hS.V
 have HOK:=Lib.hid hS.ok
 have HCO:=Lib.hid (fun k (hk:k<S.m) w' (x:Ext W w')=>x.cell (hS.c k hk))
 have HPB:=Lib.hid (fun (h:0<S.m) w' (x:Ext W w')=>Nat.lt_of_lt_of_le (hS.pb h) x.le)
 have HPA:=Lib.hid hS.pa
 have hm5:S.m≤510:=hS.ok.few
 have hb0:=hS.ok.part (fun _=>false) (Nat.zero_le _)
 have hbw:S.b+wsum S.w (fun _=>false) 0=S.b:=by show S.b+(0:Int)=S.b;omega
 rw [hbw] at hb0
 obtain ⟨m,hm⟩:∃ m,m=S.m:=⟨_,rfl⟩
 have HM:=Lib.hid hm
 clear hS hbw
 unfold SleastPost
 obtain ⟨T,tv,wa,wg,wo,wc,w,b⟩:=S
 simp only [SumM.val] at *
 rw [←hm] at hm5 HPA HPB HCO ⊢
 clear hm
 obtain ⟨ta,hta⟩:∃ z,z=T.a:=⟨_,rfl⟩
 have HTA:=Lib.hid hta
 simp only [TM.sl]
 rw [←hta]
 clear hta
 have hnb:IntKind.i64.wrap (- b)=- b:=IntWalk.i64_in _ (by omega)
 go_enter Tryz.func80,Tryz.ntmps80
 go_upto_region 1 with fail
 refine boxed1 (w:=W) (G:=fun x=>Code.wp _ _ _ _ x) ?_
 intro w1 hx1 hs1 ⟨l0,c0,_,k0⟩
 have hx11:Ext w1 w1:=Ext.refl _
 clear hs1
 go_upto_region 2 with fail
 refine boxed1 (w:=w1) (G:=fun x=>Code.wp _ _ _ _ x) ?_
 intro w2 hx2 hs2 ⟨_,_,_,k2⟩
 have hx22:Ext w2 w2:=Ext.refl _
 have hx12:Ext w1 w2:=hx2
 obtain ⟨b5,hb5⟩:∃ z,z=w1.heap.size:=⟨_,rfl⟩
 rw [←hb5] at k2 ⊢
 have HN2:=Lib.hid (OpI.mk (w1:=w1) (b5:=b5) (tv:=.slice ta T.n T.cap) (sv:=.slice none 0 0) (nb:=- b) (f:=fun v=>- w v) (k:=0) (ev:=.slice none 0 0) (wr:=w2) k2 (World.ownsRow_nil _ _ _ _) hx2 (by omega))
 clear hs2 hb5 k2 hnb
 go_wp2_with fail
 go_loopg [20] m (fun gg v20 wr=>∃ (k:Nat) (ev:Value),k≤m∧gg=m - k∧v20=.int .i64 k∧OpI w1 b5 (.slice ta T.n T.cap) (.slice none 0 0) (- b) (fun v=>- w v) k ev wr)
 case atStart=>exact ⟨0,_,by omega,rfl,rfl,HN2.out⟩
 case round=>
  obtain ⟨k,ev,hk,rfl,rfl,hI⟩:=hrel
  have hx1r:=hI.hx
  have hxr:=hx1.trans hx1r
  obtain ⟨a6,c6,rfl⟩:=own_form hI.own
  have HI:=Lib.hid hI
  have HO:=Lib.hid hI.own
  have HB5:=Lib.hid (show b5<wr.heap.size from hI.h5.lt)
  obtain ⟨l5,c5,f5,_⟩:=hI.h5.box
  have hrr:Ext wr wr:=Ext.refl _
  clear hI
  by_cases hlt:k<m
  ·have hlt':(k:Int)<(m:Int):=by omega
   obtain rfl:=HPA.out (by omega)
   have hwc:=HCO.out k hlt
   have hwb:=HPB.out (by omega)
   have hwk:=HOK.out.w (i:=k) (by have:=HM.out;show k<_;omega)
   obtain ⟨wk,hwk'⟩:∃ z,z=w k:=⟨_,rfl⟩
   rw [←hwk'] at hwk hwc
   have HWK:=Lib.hid hwk'
   clear hwk'
   have hw3:IntKind.i64.wrap (- wk)=- wk:=IntWalk.i64_in _ (by omega)
   go_upto_region 6 with (at_builtin;refine wpList_append_own _ rfl _ _ 28 rfl (b5+1) 3 j0 (.int .i64 0) 1 8 Tryz.underlying28 hj0 hy0 hy1 hy2 rfl (by decide) (.slice a6 k c6) k (intCells (rowL (fun v=>- w v) k)) rfl (by exact own_ext HO.out (Ext.alloc _ _)) ⟨wr.heap.size,0,none⟩ 1 1 [.int .i64 (- wk)] rfl rfl (by exact news_ok wr [_] _) (one_int _) (by unfold maxLen;omega) (by omega) (by rw [World.size_alloc];have:=HB5.out;omega) ?_;rintro v6 w6 hown6 hg6 -;obtain ⟨a9,c9,rfl⟩:=own_form hown6;have HP:=Lib.hid (OpI.push HI.out (Ext.alloc _ _) (by rw [←HWK.out];exact hown6) hg6);clear hown6 hg6;obtain ⟨l6,c6',f6,_⟩:=HP.out.1.box;have hx66:Ext w6 w6:=Ext.refl _)
   refine setq1 (G:=fun x=>Code.wp _ _ _ _ x) ?_
   intro w7 hw7
   have HI7:=Lib.hid (show OpI w1 b5 (.slice ta T.n T.cap) (.slice none 0 0) (- b) (fun v=>- w v) (k+1) (.slice a9 (k+1) c9) w7 from by rw [hw7];exact HP.out.2)
   clear hw7 l6 c6' f6 hx66 l5 c5 f5
   go_wp2_with fail
   go_roundg (m - (k+1))
   case rel=>exact ⟨k+1,_,by omega,rfl,by go_num,HI7.out⟩
   case measure=>omega
  ·obtain rfl:k=m:=by omega
   obtain ⟨ra,rg,ro,rc,hv,hrc,hra,hrq⟩:=(Que.own HO.out).cells1
   cases hv
   have hmm:SumM.m ⟨T,.slice none 0 0,a6,rg,ro,c6,fun v=>- w v,- b⟩=k:=HM.out.symm
   have hS':SumM.At ⟨T,.slice none 0 0,a6,rg,ro,c6,fun v=>- w v,- b⟩ wr:=⟨HT.out.ext hxr,HV.out,HOK.out.neg,fun h=>(hra (by omega)).1,fun h=>(hra (by omega)).2.2,fun j hj=>(hrq j (by omega)).trans (rowL_get (fun v=>- w v) (by omega))⟩
   have hgr:=HGR.out wr _ hS'
   have HBB:=Lib.hid (fun v c (h:T.toTr.Best (- b) (fun v=>- w v) v c)=>WOk.best HOK.out.neg h)
   simp only [TM.sl] at hgr
   rw [←HTA.out] at hgr
   rw [hmm] at hgr
   clear hS' hmm hrq hra
   go_wp2_with fail
   go_at_call 79
   refine hgr.mono ?_
   rintro e w8 ⟨hx8,v,c,g,rfl,hrow,hg,hbest⟩
   have hb2:=HBB.out v c hbest
   have hwv:IntKind.i64.wrap (- v)=- v:=IntWalk.i64_in _ (by omega)
   have hx18:=hx1r.trans hx8
   have HR8:=Lib.hid (And.intro hrow (And.intro hg hbest))
   clear hgr hrow hg hbest l5 c5 f5
   go_wp2_with fail
   go_ret3
   exact ⟨hx1.trans hx18,v,c,g,rfl,HR8.out.1,by have:=HR8.out.2.1;have:=hxr.le;omega,HR8.out.2.2⟩
end Go.Proofs.YtnknkkmdbnaglaaGreat
